/- Opx: Op0, Op2, Bl in one text. -/
import Derived.Test.YtglelcgllodhoaaCub
import Derived.Test.YtglelcgllodhoaaIn1
import Derived.Test.YtglelcgllodhoaaSXg
import Derived.Test.YtglelcgllodhoaaCodx
namespace Go.Proofs.Ytglelcgllodhoaa.Cu
open Go Go.SX
set_option maxRecDepth 100000
theorem consE {P : Program} {α β : Type} {f : Field} {fs : List Field} {o n' : Nat} {d : Kd α} {R : Gh → β → List Value → Prop} (o' n : Nat) (hd : Opens P f.type d) (ho : f.offset = o) (hoo : o' = o + d.sz) (hnn : n' = d.sz + n) (hr : OpensF P fs o' n R) :
    OpensF P (f :: fs) o n' (β := α × β) (fun G x cs => ∃ c1 c2, cs = c1 ++ c2 ∧ d.R G x.1 c1 ∧ R G x.2 c2) := by
  subst hoo hnn; exact .cons ho hd hr
theorem wf_i64 (x : Int) (h : (Lit.int .i64 x).wf = true) : -9223372036854775808 ≤ x ∧ x ≤ 9223372036854775807 := by
  simp [Lit.wf, IntKind.min, IntKind.max, IntKind.signed, IntKind.bits] at h
  omega
theorem opens_i {t : TypeId} (hc : Try.prog.cellsOf t = 1) (ht : Try.prog.underlying t = some (.int .i64)) : Opens Try.prog t (kI .i64 (-9223372036854775808) 9223372036854775807) := opens_int hc ht wf_i64
theorem opens_int_ : Opens Try.prog 3 (kI .i64 (-9223372036854775808) 9223372036854775807) := opens_i (by kernel_rfl) Try.underlying3
theorem opens_loc : Opens Try.prog 23 (kI .i64 (-9223372036854775808) 9223372036854775807) := opens_i (by kernel_rfl) Try.underlying23
end Go.Proofs.Ytglelcgllodhoaa.Cu

namespace Go.Proofs.Ytglelcgllodhoaa.Cu
open Go Go.SX Go.Proofs.Ytglelcgllodhoaa.VT
set_option maxRecDepth 100000
def i64s (l : List Int) : List Value := l.map (Value.int .i64)
theorem i64s_one (l : List Int) : ∀ v ∈ i64s l, v.oneCell' = true := by simp [i64s, Value.oneCell']
def kIns : Kd Ins where
  sz := 5
  R _ i cs := cs = i64s i.l ∧ i.ok
  len h := by rw [h.1]; rfl
  one h := by rw [h.1]; exact i64s_one _
  mono _ h := h
def kMac : Kd Mac where
  sz := 7
  R _ i cs := cs = i64s i.l ∧ i.ok
  len h := by rw [h.1]; rfl
  one h := by rw [h.1]; exact i64s_one _
  mono _ h := h
def kTrm : Kd Trm where
  sz := 4
  R _ i cs := cs = i64s i.l ∧ i.ok
  len h := by rw [h.1]; rfl
  one h := by rw [h.1]; exact i64s_one _
  mono _ h := h
theorem opens_int64 : Opens Try.prog 2 (kI .i64 (-9223372036854775808) 9223372036854775807) := opens_i (by kernel_rfl) Try.underlying2
theorem opens_ins : Opens Try.prog 57 kIns := by
  refine opens_struct (by kernel_rfl) Try.underlying57 (consE 1 4 opens_int_ rfl rfl rfl (consE 2 3 opens_int_ rfl rfl rfl (consE 3 2 opens_int_ rfl rfl rfl (consE 4 1 opens_int_ rfl rfl rfl (consE 5 0 opens_int64 rfl rfl rfl (.nil _)))))) ?_
  rintro G ⟨a, b, c, d, e, _⟩ cs ⟨_, _, rfl, ⟨rfl, ha⟩, _, _, rfl, ⟨rfl, hb⟩, _, _, rfl, ⟨rfl, hc⟩, _, _, rfl, ⟨rfl, hd⟩, _, _, rfl, ⟨rfl, he⟩, rfl⟩
  exact ⟨⟨a, b, c, d, e⟩, rfl, ha, hb, hc, hd, he⟩
theorem opens_trm : Opens Try.prog 53 kTrm := by
  refine opens_struct (by kernel_rfl) Try.underlying53 (consE 1 3 opens_int_ rfl rfl rfl (consE 2 2 opens_int_ rfl rfl rfl (consE 3 1 opens_int_ rfl rfl rfl (consE 4 0 opens_int_ rfl rfl rfl (.nil _))))) ?_
  rintro G ⟨a, b, c, d, _⟩ cs ⟨_, _, rfl, ⟨rfl, ha⟩, _, _, rfl, ⟨rfl, hb⟩, _, _, rfl, ⟨rfl, hc⟩, _, _, rfl, ⟨rfl, hd⟩, rfl⟩
  exact ⟨⟨a, b, c, d⟩, rfl, ha, hb, hc, hd⟩
end Go.Proofs.Ytglelcgllodhoaa.Cu

namespace Go.Proofs.Ytglelcgllodhoaa.Cu
open Go Go.SX Go.Proofs.Ytglelcgllodhoaa.VT
set_option maxRecDepth 100000
set_option linter.unusedVariables false
set_option linter.unusedSimpArgs false

structure Blk where
  code : List Ins
  term : Trm
deriving DecidableEq
structure MBlk where
  code : List Mac
  term : Trm
deriving DecidableEq
structure Fn where
  args : Int
  regs : Int
  blocks : List Blk
deriving DecidableEq
structure MFn where
  args : Int
  regs : Int
  slots : Int
  blocks : List MBlk
deriving DecidableEq
/-- The run of moves after an instruction. -/
def nxR (run : Int) (i : Mac) : Int := if i.op = 18 then run + 1 else 0
def kBlk : Kd Blk where
  sz := 5
  R G b cs := ∃ A c, cs = .slice A b.code.length c :: i64s b.term.l ∧ kIns.S G A c b.code ∧ b.term.ok
  len h := by obtain ⟨A, c, rfl, _⟩ := h; rfl
  one h := by
    obtain ⟨A, c, rfl, _⟩ := h
    intro v hv
    rcases List.mem_cons.1 hv with rfl | hv
    · rfl
    · exact i64s_one _ v hv
  mono hg h := by obtain ⟨A, c, h1, h2, h3⟩ := h; exact ⟨A, c, h1, h2.to hg, h3⟩
def kMBlk : Kd MBlk where
  sz := 5
  R G b cs := ∃ A c, cs = .slice A b.code.length c :: i64s b.term.l ∧ kMac.S G A c b.code ∧ b.term.ok
  len h := by obtain ⟨A, c, rfl, _⟩ := h; rfl
  one h := by
    obtain ⟨A, c, rfl, _⟩ := h
    intro v hv
    rcases List.mem_cons.1 hv with rfl | hv
    · rfl
    · exact i64s_one _ v hv
  mono hg h := by obtain ⟨A, c, h1, h2, h3⟩ := h; exact ⟨A, c, h1, h2.to hg, h3⟩
def fnS (A : Option Addr) (c : Nat) (f : Fn) : SV := .agg [.v (.int .i64 f.args), .v (.int .i64 f.regs), .v (.slice A f.blocks.length c)]
def mfnS (A : Option Addr) (c : Nat) (f : MFn) : SV := .agg [.v (.int .i64 f.args), .v (.int .i64 f.regs), .v (.int .i64 f.slots), .v (.slice A f.blocks.length c)]
def totB : List Blk → Nat
  | [] => 0
  | b :: l => b.code.length + totB l
theorem totB_take : ∀ (l : List Blk) (k : Nat) (x : Blk), l[k]? = some x → totB (l.take (k + 1)) = totB (l.take k) + x.code.length
  | [], k, x, h => by simp at h
  | y :: l, 0, x, h => by simp at h; subst h; simp [totB]
  | y :: l, k + 1, x, h => by
    have := totB_take l k x (by simpa using h)
    simp only [List.take_succ_cons, totB, this]; omega
theorem totB_le : ∀ (l : List Blk) (k : Nat), totB (l.take k) ≤ totB l
  | [], k => by simp
  | y :: l, 0 => by simp [totB]
  | y :: l, k + 1 => by have := totB_le l k; simp only [List.take_succ_cons, totB]; omega
theorem kBlk_R {G : Gh} {b : Blk} {cs : List Value} (h : kBlk.R G b cs) : ∃ A c, cs = .slice A b.code.length c :: i64s b.term.l ∧ kIns.S G A c b.code ∧ b.term.ok := h
theorem code7_fn (G : Gh) (A : Option Addr) (c : Nat) (f : Fn) (hl : kBlk.S G A c f.blocks) (hbl : f.blocks.length ≤ 1000000000) (hcl : totB f.blocks ≤ 1000000000) :
    Ct Try.prog 24 [fnS A c f] [] G fun sv H' G' => sv = .v (.int .i64 (totB f.blocks)) ∧ H' = [] ∧ G' = G := by
  refine fn_of follows [] Try.func24 rfl rfl fun E hE => ?_
  have hcap := hl.cap
  unfold fnS
  repeat' ((fail_if_success with_reducible refine Stop.mk ?_); (conv => whnf); with_reducible first | refine br_t ?_ | refine br_f ?_ | refine br_nn ?_ | refine br_ns ?_ | refine br_not ?_ | refine br_d (fun h => ?_) (fun h => ?_) | refine br_e (fun h => ?_) (fun h => ?_) | refine br_n (fun h => ?_) (fun h => ?_) | refine drw (by kernel_rfl) ?_ | refine chk (by kernel_rfl) ?_ | refine stop ?_)
  all_goals refine Stop.mk ?_
  refine loop_vars follows [] (α := Nat) (fun k => [(3, .v (.int .i64 (totB (f.blocks.take k)))), (4, .v (.int .i64 k))]) (fun x => [.cells 46 [.v (.int .i64 f.args), .v (.int .i64 f.regs), .v (.slice A f.blocks.length c)]]) (fun x => G) (fun k => k ≤ f.blocks.length) (fun k => f.blocks.length - k) 0
    (Nat.zero_le _) rfl rfl ?_ ?_
  ·
    refine ⟨?_⟩
    (conv => whnf)
    (repeat' (first | exact trivial | exact .inl rfl | exact .inr rfl | refine And.intro ?_ ?_))
  intro k hk
  have hw2 : IntKind.i64.wrap ((k : Int) + 1) = ((k + 1 : Nat) : Int) := by rw [i64_in (by omega) (by omega)]; simp
  have htt := totB_take f.blocks k
  have htl := totB_le f.blocks (k + 1)
  repeat' ((fail_if_success with_reducible refine Stop.mk ?_); (conv => whnf); with_reducible first | refine br_t ?_ | refine br_f ?_ | refine br_nn ?_ | refine br_ns ?_ | refine br_not ?_ | refine br_d (fun h => ?_) (fun h => ?_) | refine br_e (fun h => ?_) (fun h => ?_) | refine br_n (fun h => ?_) (fun h => ?_) | refine drw (by kernel_rfl) ?_ | refine chk (by kernel_rfl) ?_ | refine stop ?_)
  all_goals refine Stop.mk ?_
  ·
    obtain ⟨_, hs_, hat_⟩ := hl.at (sz := 5) rfl
    refine ⟨⟨by omega, by omega⟩, _, hs_, fun ad had hadr => ?_⟩
    obtain ⟨b, cells, hb, hRb, hGb⟩ := hat_ k (by omega) ad (by first | exact had | (rw [Int.toNat_natCast] at had; exact had))
    clear had hat_ hs_
    obtain ⟨A', c', rfl, hS, hbt⟩ := kBlk_R hRb
    replace htt := htt b hb
    have hw3 : IntKind.i64.wrap ((totB (f.blocks.take k) : Int) + (b.code.length : Int)) = ((totB (f.blocks.take (k + 1)) : Nat) : Int) := by rw [i64_in (by omega) (by omega), htt]; simp
    repeat' ((fail_if_success with_reducible refine Stop.mk ?_); (conv => whnf); with_reducible first | refine br_t ?_ | refine br_f ?_ | refine br_nn ?_ | refine br_ns ?_ | refine br_not ?_ | refine br_d (fun h => ?_) (fun h => ?_) | refine br_e (fun h => ?_) (fun h => ?_) | refine br_n (fun h => ?_) (fun h => ?_) | refine drw (by kernel_rfl) ?_ | refine chk (by kernel_rfl) ?_ | refine stop ?_)
    all_goals refine Stop.mk ?_
    refine ⟨_, hGb 0 _ rfl, ?_⟩
    repeat' ((fail_if_success with_reducible refine Stop.mk ?_); (conv => whnf); with_reducible first | refine br_t ?_ | refine br_f ?_ | refine br_nn ?_ | refine br_ns ?_ | refine br_not ?_ | refine br_d (fun h => ?_) (fun h => ?_) | refine br_e (fun h => ?_) (fun h => ?_) | refine br_n (fun h => ?_) (fun h => ?_) | refine drw (by kernel_rfl) ?_ | refine chk (by kernel_rfl) ?_ | refine stop ?_)
    all_goals refine Stop.mk ?_
    rw [hw2, hw3]
    refine tell_here ⟨k + 1, by omega, by show f.blocks.length - (k + 1) < f.blocks.length - k; omega, rfl, rfl, ?_⟩
    refine ⟨?_⟩
    (conv => whnf)
    (repeat' (first | exact trivial | exact .inl rfl | exact .inr rfl | refine And.intro ?_ ?_))
  · have hkl : k = f.blocks.length := by omega
    subst hkl
    rw [List.take_length]
    exact fin_id hE 0 rfl rfl rfl rfl ⟨rfl, rfl, rfl⟩
theorem few7_fn (G : Gh) (A : Option Addr) (c : Nat) (f : Fn) (hl : kBlk.S G A c f.blocks) :
    Ct Try.prog 21 [fnS A c f] [] G fun sv H' G' => (∃ r, sv = .v (.bool r) ∧ (r = true → f.blocks.length ≤ 40 ∧ f.regs ≤ 60 ∧ totB f.blocks ≤ 300)) ∧ H' = [] ∧ G' = G := by
  refine fn_of follows [] Try.func21 rfl rfl fun E hE => ?_
  have hcap := hl.cap
  unfold fnS
  repeat' ((fail_if_success with_reducible refine Stop.mk ?_); (conv => whnf); with_reducible first | refine br_t ?_ | refine br_f ?_ | refine br_nn ?_ | refine br_ns ?_ | refine br_not ?_ | refine br_d (fun h => ?_) (fun h => ?_) | refine br_e (fun h => ?_) (fun h => ?_) | refine br_n (fun h => ?_) (fun h => ?_) | refine drw (by kernel_rfl) ?_ | refine chk (by kernel_rfl) ?_ | refine stop ?_)
  all_goals refine Stop.mk ?_
  all_goals try exact fin_id hE 0 rfl rfl rfl rfl ⟨⟨_, rfl, fun h => absurd h (by decide)⟩, rfl, rfl⟩
  refine loop_vars follows [] (α := Nat) (fun k => [(3, .v (.int .i64 k))]) (fun x => [.cells 46 [.v (.int .i64 f.args), .v (.int .i64 f.regs), .v (.slice A f.blocks.length c)]]) (fun x => G) (fun k => k ≤ f.blocks.length ∧ totB (f.blocks.take k) ≤ 100 * k) (fun k => f.blocks.length - k) 0
    ⟨Nat.zero_le _, by simp [totB]⟩ rfl rfl ?_ ?_
  ·
    refine ⟨?_⟩
    (conv => whnf)
    (repeat' (first | exact trivial | exact .inl rfl | exact .inr rfl | refine And.intro ?_ ?_))
  intro k hI
  obtain ⟨hk, htk⟩ := hI
  have hw2 : IntKind.i64.wrap ((k : Int) + 1) = ((k + 1 : Nat) : Int) := by rw [i64_in (by omega) (by omega)]; simp
  have htt := totB_take f.blocks k
  repeat' ((fail_if_success with_reducible refine Stop.mk ?_); (conv => whnf); with_reducible first | refine br_t ?_ | refine br_f ?_ | refine br_nn ?_ | refine br_ns ?_ | refine br_not ?_ | refine br_d (fun h => ?_) (fun h => ?_) | refine br_e (fun h => ?_) (fun h => ?_) | refine br_n (fun h => ?_) (fun h => ?_) | refine drw (by kernel_rfl) ?_ | refine chk (by kernel_rfl) ?_ | refine stop ?_)
  all_goals refine Stop.mk ?_
  ·
    obtain ⟨_, hs_, hat_⟩ := hl.at (sz := 5) rfl
    refine ⟨⟨by omega, by omega⟩, _, hs_, fun ad had hadr => ?_⟩
    obtain ⟨b, cells, hb, hRb, hGb⟩ := hat_ k (by omega) ad (by first | exact had | (rw [Int.toNat_natCast] at had; exact had))
    clear had hat_ hs_
    obtain ⟨A', c', rfl, hS, hbt⟩ := kBlk_R hRb
    replace htt := htt b hb
    repeat' ((fail_if_success with_reducible refine Stop.mk ?_); (conv => whnf); with_reducible first | refine br_t ?_ | refine br_f ?_ | refine br_nn ?_ | refine br_ns ?_ | refine br_not ?_ | refine br_d (fun h => ?_) (fun h => ?_) | refine br_e (fun h => ?_) (fun h => ?_) | refine br_n (fun h => ?_) (fun h => ?_) | refine drw (by kernel_rfl) ?_ | refine chk (by kernel_rfl) ?_ | refine stop ?_)
    all_goals refine Stop.mk ?_
    refine ⟨_, hGb 0 _ rfl, ?_⟩
    repeat' ((fail_if_success with_reducible refine Stop.mk ?_); (conv => whnf); with_reducible first | refine br_t ?_ | refine br_f ?_ | refine br_nn ?_ | refine br_ns ?_ | refine br_not ?_ | refine br_d (fun h => ?_) (fun h => ?_) | refine br_e (fun h => ?_) (fun h => ?_) | refine br_n (fun h => ?_) (fun h => ?_) | refine drw (by kernel_rfl) ?_ | refine chk (by kernel_rfl) ?_ | refine stop ?_)
    all_goals refine Stop.mk ?_
    all_goals try exact fin_id hE 0 rfl rfl rfl rfl ⟨⟨_, rfl, fun h => absurd h (by decide)⟩, rfl, rfl⟩
    rw [hw2]
    refine tell_here ⟨k + 1, ⟨by omega, by omega⟩, by show f.blocks.length - (k + 1) < f.blocks.length - k; omega, rfl, rfl, ?_⟩
    refine ⟨?_⟩
    (conv => whnf)
    (repeat' (first | exact trivial | exact .inl rfl | exact .inr rfl | refine And.intro ?_ ?_))
  · have hkl : k = f.blocks.length := by omega
    subst hkl
    rw [List.take_length] at htk
    refine call_fn [] (code7_fn _ A c f hl (by omega) (by omega)) rfl trivial (by decide) ?_
    rintro sv H' G' ⟨rfl, rfl, rfl⟩ -
    refine ⟨Nat.le_of_ble_eq_true rfl, ?_⟩
    repeat' ((fail_if_success with_reducible refine Stop.mk ?_); (conv => whnf); with_reducible first | refine br_t ?_ | refine br_f ?_ | refine br_nn ?_ | refine br_ns ?_ | refine br_not ?_ | refine br_d (fun h => ?_) (fun h => ?_) | refine br_e (fun h => ?_) (fun h => ?_) | refine br_n (fun h => ?_) (fun h => ?_) | refine drw (by kernel_rfl) ?_ | refine chk (by kernel_rfl) ?_ | refine stop ?_)
    all_goals refine Stop.mk ?_
    refine fin_id hE 0 rfl rfl rfl rfl ⟨⟨_, rfl, fun h => ?_⟩, rfl, rfl⟩
    have := of_decide_eq_true h
    exact ⟨by omega, by omega, by omega⟩
def totMB : List MBlk → Nat
  | [] => 0
  | b :: l => b.code.length + totMB l
theorem totMB_take : ∀ (l : List MBlk) (k : Nat) (x : MBlk), l[k]? = some x → totMB (l.take (k + 1)) = totMB (l.take k) + x.code.length
  | [], k, x, h => by simp at h
  | y :: l, 0, x, h => by simp at h; subst h; simp [totMB]
  | y :: l, k + 1, x, h => by
    have := totMB_take l k x (by simpa using h)
    simp only [List.take_succ_cons, totMB, this]; omega
theorem totMB_le : ∀ (l : List MBlk) (k : Nat), totMB (l.take k) ≤ totMB l
  | [], k => by simp
  | y :: l, 0 => by simp [totMB]
  | y :: l, k + 1 => by have := totMB_le l k; simp only [List.take_succ_cons, totMB]; omega
theorem kMBlk_R {G : Gh} {b : MBlk} {cs : List Value} (h : kMBlk.R G b cs) : ∃ A c, cs = .slice A b.code.length c :: i64s b.term.l ∧ kMac.S G A c b.code ∧ b.term.ok := h
/-- The run of moves that ends ahead of k. -/
def runK (l : List Mac) (k : Nat) : Int := foldS nxR 0 (l.take k)
theorem foldS_snoc {σ α : Type} (nx : σ → α → σ) : ∀ (l : List α) (s : σ) (x : α), foldS nx s (l ++ [x]) = nx (foldS nx s l) x
  | [], s, x => rfl
  | y :: l, s, x => foldS_snoc nx l (nx s y) x
theorem runK_next (l : List Mac) (k : Nat) (x : Mac) (h : l[k]? = some x) : runK l (k + 1) = nxR (runK l k) x := by
  unfold runK
  rw [List.take_add_one, h]
  exact foldS_snoc nxR _ 0 x
theorem runK_nonneg (l : List Mac) : ∀ k, 0 ≤ runK l k
  | 0 => by simp [runK, foldS]
  | k + 1 => by
    cases h : l[k]? with
    | none =>
      have e : l.take (k + 1) = l.take k := by rw [List.take_add_one, h]; simp
      have := runK_nonneg l k
      unfold runK at *
      rw [e]; exact this
    | some x =>
      rw [runK_next l k x h]
      exact (nxR_le' _ x (runK_nonneg l k))
where
  nxR_le' (run : Int) (i : Mac) (h : 0 ≤ run) : 0 ≤ nxR run i := by unfold nxR; split <;> omega
/-- A run is at least n exactly if the last n are moves. -/
theorem runK_iff (l : List Mac) : ∀ (k n : Nat), k ≤ l.length → n ≤ k → ((n : Int) ≤ runK l k ↔ ∀ i x, k - n ≤ i → i < k → l[i]? = some x → x.op = 18)
  | 0, n, _, hn => by
    have : n = 0 := by omega
    subst this
    constructor
    · intro _ i x h1 h2; omega
    · intro _; simp [runK, foldS]
  | k + 1, n, hk, hn => by
    obtain ⟨y, hy⟩ : ∃ y, l[k]? = some y := ⟨_, List.getElem?_eq_getElem (by omega)⟩
    rw [runK_next l k y hy]
    cases n with
    | zero =>
      constructor
      · intro _ i x h1 h2; omega
      · intro _
        have h0 := runK_nonneg l k
        unfold nxR; split <;> omega
    | succ n =>
      have ih := runK_iff l k n (by omega) (by omega)
      unfold nxR
      split
      · rename_i h18
        constructor
        · intro h i x h1 h2 hx
          rcases Nat.lt_succ_iff_lt_or_eq.1 h2 with h3 | h3
          · exact ih.1 (by omega) i x (by omega) h3 hx
          · subst h3
            rw [hy] at hx
            simp at hx; subst hx; exact h18
        · intro h
          have := ih.2 fun i x h1 h2 hx => h i x (by omega) (by omega) hx
          omega
      · rename_i h18
        constructor
        · intro h; omega
        · intro h
          exact absurd (h k y (by omega) (by omega) hy) h18
end Go.Proofs.Ytglelcgllodhoaa.Cu
