/- Sections: Pack and Split. -/
import Derived.Test.YtchebkpcgglllaaGreatSe1
import Derived.Test.YtchebkpcgglllaaGreatVTx
import Derived.Test.YtchebkpcgglllaaGreatNux
namespace Go.Proofs.YtchebkpcgglllaaGreat.Cu
open Go Go.SX Go.Proofs.YtchebkpcgglllaaGreat.VT
set_option maxRecDepth 100000
set_option linter.unusedVariables false
set_option linter.unusedSimpArgs false

def packB : List Int → List (List Int) → List Int
  | i :: is, c :: cs => i :: (putB c.length ++ c ++ packB is cs)
  | _, _ => []
theorem packB_take : ∀ (is : List Int) (cs : List (List Int)) (k : Nat) (i : Int) (c : List Int), is[k]? = some i → cs[k]? = some c →
    packB (is.take (k + 1)) (cs.take (k + 1)) = packB (is.take k) (cs.take k) ++ [i] ++ putB c.length ++ c
  | [], cs, k, i, c, h, _ => by simp at h
  | _ :: _, [], k, i, c, _, h => by simp at h
  | j :: is, d :: cs, 0, i, c, h, h' => by simp at h h'; subst h h'; simp [packB]
  | j :: is, d :: cs, k + 1, i, c, h, h' => by
    have := packB_take is cs k i c (by simpa using h) (by simpa using h')
    simp only [List.take_succ_cons, packB] at this ⊢
    rw [this]; simp
theorem packB_len : ∀ (is : List Int) (cs : List (List Int)), is.length = cs.length → (packB is cs).length = sizeB cs
  | [], [], _ => rfl
  | i :: is, c :: cs, h => by
    simp only [packB, sizeB, List.length_cons, List.length_append]
    rw [packB_len is cs (by simpa using h), vlen_is]; omega
  | [], _ :: _, h => by simp at h
  | _ :: _, [], h => by simp at h
theorem packB_isb : ∀ {is : List Int} {cs : List (List Int)}, isB is → (∀ c ∈ cs, isB c ∧ c.length < 18446744073709551616) → isB (packB is cs)
  | [], cs, _, _ => by intro x hx; simp [packB] at hx
  | _ :: _, [], _, _ => by intro x hx; simp [packB] at hx
  | i :: is, c :: cs, hi, hc => by
    intro x hx
    simp only [packB, List.mem_cons, List.mem_append] at hx
    rcases hx with rfl | (hx | hx) | hx
    · exact hi x (by simp)
    · exact vput_byte 9 c.length (by simpa using (hc c (by simp)).2) x hx
    · exact (hc c (by simp)).1 x hx
    · exact packB_isb (fun y hy => hi y (by simp [hy])) (fun d hd => hc d (by simp [hd])) x hx
def PackPost (is : List Int) (cs : List (List Int)) (sv : SV) (H' : List Ob) : Prop :=
  if is.length = cs.length then sv = .tup [.s 0, .v (.int .i64 0)] ∧ H' = [rowB (packB is cs)] else sv = .tup [.v (.slice none 0 0), .v (.int .i64 14)] ∧ H' = []
set_option maxHeartbeats 8000000 in
theorem pack_fn (G : Gh) (A B : Option Addr) (c c2 : Nat) (is : List Int) (cs : List (List Int)) (hids : kB.S G A c is) (hcs : kBs.S G B c2 cs) (h1 : cs.length ≤ 10000) (h2 : total cs ≤ 500000) :
    Ct Tryz.prog 43 [.v (.slice A is.length c), .v (.slice B cs.length c2)] [] G fun sv H' G' => PackPost is cs sv H' := by
  refine fn_of follows [] Tryz.func43 rfl rfl fun E hE => ?_
  have hcap := hids.cap
  repeat' ((fail_if_success with_reducible refine Stop.mk ?_);(conv=>whnf);with_reducible first|refine br_n (fun h=>?_) fun h=>?_|refine stop ?_)
  all_goals refine Stop.mk ?_
  rotate_left
  · exact fin_all (by unfold PackPost; rw [if_neg (by omega)]; exact ⟨rfl, rfl⟩)
  have hll : is.length = cs.length := by omega
  refine loop_gh (gh_birthC 0 0 5 1 rfl rfl) ?_
  rintro _ _ ⟨rfl, rfl⟩
  refine loop_vars follows [] (α := Nat × Gh) (fun x => [(16, .v (.int .i64 x.1))]) (fun x => wrH (packB (is.take x.1) (cs.take x.1))) (fun x => x.2) (fun x => x.1 ≤ cs.length ∧ kB.S x.2 A c is ∧ kBs.S x.2 B c2 cs) (fun x => cs.length - x.1) (0, G)
    ⟨Nat.zero_le _, hids, hcs⟩ ?_ rfl ?_ ?_
  · simp only [List.take_zero, packB]; rfl
  ·
    refine ⟨?_⟩
    (conv => whnf)
    (repeat' (first | exact trivial | exact .inl rfl | exact .inr rfl | refine And.intro ?_ ?_))
  rintro ⟨k, Gk⟩ ⟨hk, hids, hcs⟩
  dsimp only at hk hids hcs ⊢
  have hw2 : IntKind.i64.wrap ((k : Int) + 1) = ((k + 1 : Nat) : Int) := by rw [i64_in (by omega) (by omega)]; simp
  have hlen : (packB (is.take k) (cs.take k)).length ≤ 11 * k + 500000 := by
    rw [packB_len _ _ (by rw [List.length_take, List.length_take]; omega)]
    have := sizeB_le (cs.take k)
    have := total_le cs k
    rw [List.length_take] at *
    omega
  repeat' ((fail_if_success with_reducible refine Stop.mk ?_);(conv=>whnf);with_reducible first|refine br_d (fun h=>?_) fun h=>?_|refine stop ?_)
  all_goals refine Stop.mk ?_
  ·
    obtain ⟨_, hs_, hat_⟩ := hcs.at (sz := 1) rfl
    refine ⟨⟨by omega, by omega⟩, _, hs_, fun ad had hadr => ?_⟩
    obtain ⟨x, cells, hx, hRx, hGx⟩ := hat_ k (by omega) ad (by first | exact had | (rw [Int.toNat_natCast] at had; exact had))
    clear had hat_ hs_
    obtain ⟨A', c', rfl, hs, hb⟩ := kBs_R hRx
    have htot := total_mem hx
    repeat' ((fail_if_success with_reducible refine Stop.mk ?_);(conv=>whnf);with_reducible refine stop ?_)
    all_goals refine Stop.mk ?_
    refine ⟨_, ld1 hGx, ?_⟩
    repeat' ((fail_if_success with_reducible refine Stop.mk ?_);(conv=>whnf);with_reducible refine stop ?_)
    all_goals refine Stop.mk ?_
    obtain ⟨_, hs_, hat_⟩ := hids.at (sz := 1) rfl
    refine ⟨⟨by omega, by omega⟩, _, hs_, fun ad had hadr => ?_⟩
    obtain ⟨i, cells, hi, hRi, hGi⟩ := hat_ k (by omega) ad (by first | exact had | (rw [Int.toNat_natCast] at had; exact had))
    clear had hat_ hs_
    obtain ⟨rfl, hir⟩ := hRi
    repeat' ((fail_if_success with_reducible refine Stop.mk ?_);(conv=>whnf);with_reducible refine stop ?_)
    all_goals refine Stop.mk ?_
    refine ⟨_, ld1 hGi, ?_⟩
    repeat' ((fail_if_success with_reducible refine Stop.mk ?_);(conv=>whnf);with_reducible refine stop ?_)
    all_goals refine Stop.mk ?_
    refine call_fn [0, 1] (wbyte_fn _ i _ (by omega)) rfl ⟨rfl, rfl, trivial⟩ (by decide) ?_
    rintro sv H' G' ⟨rfl, rfl⟩ hg
    refine ⟨Nat.le_of_ble_eq_true rfl, ?_⟩
    replace hs := Sl.to hg hs
    replace hids := hids.to hg
    replace hcs := hcs.to hg
    clear hg
    repeat' ((fail_if_success with_reducible refine Stop.mk ?_);(conv=>whnf);with_reducible refine stop ?_)
    all_goals refine Stop.mk ?_
    rw [u64_in (n := (x.length : Int)) (by omega) (by omega)]
    refine call_fn [0, 1] (wuint_fn _ x.length _ (by omega) (by simp; omega)) rfl ⟨rfl, rfl, trivial⟩ (by decide) ?_
    rintro sv H' G' ⟨rfl, rfl⟩ hg
    refine ⟨Nat.le_of_ble_eq_true rfl, ?_⟩
    replace hs := Sl.to hg hs
    replace hids := hids.to hg
    replace hcs := hcs.to hg
    clear hg
    have hp := putB_len x.length
    repeat' ((fail_if_success with_reducible refine Stop.mk ?_);(conv=>whnf);with_reducible refine stop ?_)
    all_goals refine Stop.mk ?_
    refine call_fn [0, 1] (wbytes_fn _ A' c' x _ hs (by simp; omega)) rfl ⟨rfl, rfl, trivial⟩ (by decide) ?_
    rintro sv H' G' ⟨rfl, rfl, rfl⟩ hg
    refine ⟨Nat.le_of_ble_eq_true rfl, ?_⟩
    clear hg
    repeat' ((fail_if_success with_reducible refine Stop.mk ?_);(conv=>whnf);with_reducible refine stop ?_)
    all_goals refine Stop.mk ?_
    rw [hw2]
    refine tell_here ⟨(k + 1, _), ⟨by show k + 1 ≤ _; omega, hids, hcs⟩, by show cs.length - (k + 1) < cs.length - k; omega, ?_, rfl, ?_⟩
    · show wrH _ = _
      rw [packB_take is cs k i x hi hx]
      rfl
    ·
      refine ⟨?_⟩
      (conv => whnf)
      (repeat' (first | exact trivial | exact .inl rfl | exact .inr rfl | refine And.intro ?_ ?_))
  · obtain rfl : k = cs.length := by omega
    refine call_fn [0, 1] (wout_fn _ _ (by omega)) rfl ⟨rfl, rfl, trivial⟩ (by decide) ?_
    rintro sv H' G' ⟨rfl, rfl, rfl⟩ hg
    refine ⟨Nat.le_of_ble_eq_true rfl, ?_⟩
    repeat' ((fail_if_success with_reducible refine Stop.mk ?_);(conv=>whnf);with_reducible refine stop ?_)
    all_goals refine Stop.mk ?_
    refine fin_mk hE [2] (.tup [.s 0, .v (.int .i64 0)]) [rowB (packB is cs)] rfl ⟨?_, trivial⟩ rfl ?_
    · show some _ = some _
      rw [List.take_length, List.take_of_length_le (by omega)]; rfl
    · unfold PackPost; rw [if_pos hll]; exact ⟨rfl, rfl⟩
/-! ### Split -/
def step1 (id : Int) (p : Ps) : Ps := if (sByte p).2.2 = 0 ∧ (sByte p).1 ≠ id then sFail 7 (sByte p).2 else (sByte p).2
def step2 (p : Ps) : Ps := if (sUint maxU p).2.2 = 0 ∧ (sUint maxU p).1 > sLeft (sUint maxU p).2 then sFail 1 (sUint maxU p).2 else (sUint maxU p).2
def stepS (id : Int) (p : Ps) : List Int × Ps := sBytes (IntKind.i64.wrap (sUint maxU (step1 id p)).1) (step2 (step1 id p))
def splitS : List Int → Ps → List (List Int) × Ps
  | [], p => ([], p)
  | id :: ids, p => ((stepS id p).1 :: (splitS ids (stepS id p).2).1, (splitS ids (stepS id p).2).2)
theorem splitS_take : ∀ (ids : List Int) (k : Nat) (id : Int) (p : Ps), ids[k]? = some id →
    splitS (ids.take (k + 1)) p = ((splitS (ids.take k) p).1 ++ [(stepS id (splitS (ids.take k) p).2).1], (stepS id (splitS (ids.take k) p).2).2)
  | [], k, id, p, h => by simp at h
  | j :: ids, 0, id, p, h => by simp at h; subst h; simp [splitS]
  | j :: ids, k + 1, id, p, h => by
    have := splitS_take ids k id (stepS j p).2 (by simpa using h)
    simp only [List.take_succ_cons, splitS] at this ⊢
    rw [this]; simp
theorem step1_suf (id : Int) (p : Ps) : (step1 id p).1 <:+ p.1 := by
  unfold step1; split
  · exact sByte_suf p
  · exact sByte_suf p
theorem step2_suf (p : Ps) : (step2 p).1 <:+ p.1 := by
  unfold step2; split
  · exact sUint_suf _ p
  · exact sUint_suf _ p
theorem stepS_suf (id : Int) (p : Ps) : (stepS id p).2.1 <:+ p.1 := (sBytes_suf _ _).trans ((step2_suf _).trans (step1_suf _ _))
theorem isB_suf {l m : List Int} (h : isB m) (hs : l <:+ m) : isB l := fun x hx => h x (hs.subset hx)
theorem splitS_len : ∀ (ids : List Int) (p : Ps), (splitS ids p).1.length = ids.length
  | [], p => rfl
  | id :: ids, p => by simp [splitS, splitS_len ids]
/-- What Split comes to: the contents, the error. -/
def splitR (ids b : List Int) : List (List Int) × Int := ((splitS ids (b, 0)).1, (sEnd (splitS ids (b, 0)).2).2)
def SplitPost (ids b : List Int) (sv : SV) (H' : List Ob) (G' : Gh) : Prop :=
  if (splitR ids b).2 = 0 then ∃ vals, sv = .tup [.s 0, .v (.int .i64 0)] ∧ H' = [.row 22 1 (splitR ids b).1.length vals] ∧ kBs.Cs G' (splitR ids b).1 vals
  else sv = .tup [.v (.slice none 0 0), .v (.int .i64 (splitR ids b).2)] ∧ H' = []
set_option maxHeartbeats 8000000 in
theorem split_fn (G : Gh) (A B : Option Addr) (c c2 : Nat) (b ids : List Int) (hbb : isB b) (hb : SlB G A c b) (hids : kB.S G B c2 ids) (h1 : ids.length ≤ 10000) (h2 : b.length ≤ 1000000000) :
    Ct Tryz.prog 24 [.v (.slice A b.length c), .v (.slice B ids.length c2)] [] G (SplitPost ids b) := by
  refine fn_of follows [] Tryz.func24 rfl rfl fun E hE => ?_
  repeat' ((fail_if_success with_reducible refine Stop.mk ?_);(conv=>whnf);with_reducible refine stop ?_)
  all_goals refine Stop.mk ?_
  refine call_fn [] (pnew_fn G A b c hbb hb (by omega)) rfl trivial (by decide) ?_
  rintro sv H' G' ⟨A1, c1, rfl, rfl, hc⟩ hg
  refine ⟨Nat.le_of_ble_eq_true rfl, ?_⟩
  replace hids := hids.to hg
  clear hg hb
  repeat' ((fail_if_success with_reducible refine Stop.mk ?_);(conv=>whnf);with_reducible refine stop ?_)
  all_goals refine Stop.mk ?_
  refine loop_gh (gh_birth 7 22 1 rfl) ?_
  rintro _ _ ⟨rfl, rfl⟩
  refine loop_vars follows [] (α := Nat × Gh × List Value) (fun x => [(7, .s 1), (16, .v (.int .i64 x.1))]) (fun x => [curL A1 b c1 (splitS (ids.take x.1) (b, 0)).2, .row 22 1 x.1 x.2.2]) (fun x => x.2.1)
    (fun x => x.1 ≤ ids.length ∧ CurOK x.2.1 A1 c1 b (splitS (ids.take x.1) (b, 0)).2 ∧ kB.S x.2.1 B c2 ids ∧ kBs.Cs x.2.1 (splitS (ids.take x.1) (b, 0)).1 x.2.2) (fun x => ids.length - x.1) (0, G', [])
    ⟨Nat.zero_le _, hc, hids, Kd.Cs.nil _ _⟩ ?_ rfl ?_ ?_
  · rfl
  ·
    refine ⟨?_⟩
    (conv => whnf)
    (repeat' (first | exact trivial | exact .inl rfl | exact .inr rfl | refine And.intro ?_ ?_))
  clear hc hids
  rintro ⟨k, Gk, vals⟩ ⟨hk, hc, hids, hv⟩
  dsimp only at hk hc hids hv ⊢
  have hw2 : IntKind.i64.wrap ((k : Int) + 1) = ((k + 1 : Nat) : Int) := by rw [i64_in (by omega) (by omega)]; simp
  have hsplit := fun id => splitS_take ids k id (b, 0)
  have hvl : (splitS (ids.take k) (b, 0)).1.length = k := by rw [splitS_len, List.length_take]; omega
  generalize hsp : splitS (ids.take k) (b, 0) = sp at *
  obtain ⟨outs, p⟩ := sp
  dsimp only at hc hv hsplit hvl ⊢
  have hle := hc.le
  repeat' ((fail_if_success with_reducible refine Stop.mk ?_);(conv=>whnf);with_reducible first|refine br_d (fun h=>?_) fun h=>?_|refine stop ?_)
  all_goals refine Stop.mk ?_
  ·
    obtain ⟨_, hs_, hat_⟩ := hids.at (sz := 1) rfl
    refine ⟨⟨by omega, by omega⟩, _, hs_, fun ad had hadr => ?_⟩
    obtain ⟨id, cells, hid, hRid, hGid⟩ := hat_ k (by omega) ad (by first | exact had | (rw [Int.toNat_natCast] at had; exact had))
    clear had hat_ hs_
    obtain ⟨rfl, hir⟩ := hRid
    replace hsplit := hsplit id hid
    repeat' ((fail_if_success with_reducible refine Stop.mk ?_);(conv=>whnf);with_reducible refine stop ?_)
    all_goals refine Stop.mk ?_
    refine ⟨_, ld1 hGid, ?_⟩
    repeat' ((fail_if_success with_reducible refine Stop.mk ?_);(conv=>whnf);with_reducible refine stop ?_)
    all_goals refine Stop.mk ?_
    refine call_fn [0] (pbyte_fn hc) rfl ⟨rfl, trivial⟩ (by decide) ?_
    rintro sv H' G' ⟨rfl, rfl, rfl⟩ -
    refine ⟨Nat.le_of_ble_eq_true rfl, ?_⟩
    have hc1 := hc.next (sByte_suf p)
    obtain ⟨q, hq⟩ : ∃ q, q = step1 id p := ⟨_, rfl⟩
    have hcq : CurOK _ A1 c1 b q := hq ▸ hc.next (step1_suf id p)
    obtain ⟨r, hr⟩ : ∃ r, r = step2 q := ⟨_, rfl⟩
    have hcr : CurOK _ A1 c1 b r := hr ▸ hcq.next (step2_suf q)
    have hcu := hcq.next (sUint_suf maxU q)
    have hst : stepS id p = sBytes (IntKind.i64.wrap (sUint maxU q).1) r := by rw [hr, hq]; rfl
    have hleft : 0 ≤ sLeft (sUint maxU q).2 ∧ sLeft (sUint maxU q).2 ≤ b.length := by
      have := hcu.le
      unfold sLeft; split <;> omega
    have hwl : IntKind.u64.wrap (sLeft (sUint maxU q).2) = sLeft (sUint maxU q).2 := u64_in (by omega) (by omega)
    have hurg := sUint_range (most := maxU) hcq.isb
    have hwn : IntKind.i64.wrap (sUint maxU q).1 ≤ 9223372036854775807 := by rw [IntKind.wrap_i64]; omega
    repeat' ((fail_if_success with_reducible refine Stop.mk ?_);(conv=>whnf);with_reducible refine stop ?_)
    all_goals refine Stop.mk ?_
    refine call_fn [0] (perr_fn (p := (sByte p).2)) rfl ⟨rfl, trivial⟩ (by decide) ?_
    rintro sv H' G' ⟨rfl, rfl, rfl⟩ -
    refine ⟨Nat.le_of_ble_eq_true rfl, ?_⟩
    repeat' ((fail_if_success with_reducible refine Stop.mk ?_);(conv=>whnf);with_reducible first|refine br_f ?_|refine br_e (fun h=>?_) fun h=>?_|refine br_n (fun h=>?_) fun h=>?_|refine stop ?_)
    all_goals refine Stop.mk ?_
    all_goals try
      refine call_fn [0] (pfail_fn 7 (p := (sByte p).2)) rfl ⟨rfl, trivial⟩ (by decide) ?_
      rintro sv H' G' ⟨rfl, rfl, rfl⟩ -
      refine ⟨Nat.le_of_ble_eq_true rfl, ?_⟩
      repeat' ((fail_if_success with_reducible refine Stop.mk ?_);(conv=>whnf);with_reducible refine stop ?_)
      all_goals refine Stop.mk ?_
      have hq' : sFail 7 (sByte p).2 = q := by rw [hq]; unfold step1; rw [if_pos ⟨by assumption, by assumption⟩]
      rw [hq']
    all_goals try
      have hq' : (sByte p).2 = q := by
        rw [hq]; unfold step1
        first | rw [if_neg (by rintro ⟨_, h⟩; exact h (by assumption))] | rw [if_neg (by rintro ⟨h, _⟩; exact absurd h (by assumption))]
      rw [hq']
    all_goals
      refine call_fn [0] (puint_fn maxU hcq) rfl ⟨rfl, trivial⟩ (by decide) ?_
      rintro sv H' G' ⟨rfl, rfl, rfl⟩ -
      refine ⟨Nat.le_of_ble_eq_true rfl, ?_⟩
      repeat' ((fail_if_success with_reducible refine Stop.mk ?_);(conv=>whnf);with_reducible refine stop ?_)
      all_goals refine Stop.mk ?_
      refine call_fn [0] (perr_fn (p := (sUint maxU q).2)) rfl ⟨rfl, trivial⟩ (by decide) ?_
      rintro sv H' G' ⟨rfl, rfl, rfl⟩ -
      refine ⟨Nat.le_of_ble_eq_true rfl, ?_⟩
      repeat' ((fail_if_success with_reducible refine Stop.mk ?_);(conv=>whnf);with_reducible first|refine br_f ?_|refine br_e (fun h=>?_) fun h=>?_|refine stop ?_)
      all_goals refine Stop.mk ?_
    all_goals try
      refine call_fn [0] (pleft_fn hcu) rfl ⟨rfl, trivial⟩ (by decide) ?_
      rintro sv H' G' ⟨rfl, rfl, rfl⟩ -
      refine ⟨Nat.le_of_ble_eq_true rfl, ?_⟩
      repeat' ((fail_if_success with_reducible refine Stop.mk ?_);(conv=>whnf);with_reducible first|refine br_d (fun h=>?_) fun h=>?_|refine stop ?_)
      all_goals refine Stop.mk ?_
    all_goals try
      refine call_fn [0] (pfail_fn 1 (p := (sUint maxU q).2)) rfl ⟨rfl, trivial⟩ (by decide) ?_
      rintro sv H' G' ⟨rfl, rfl, rfl⟩ -
      refine ⟨Nat.le_of_ble_eq_true rfl, ?_⟩
      repeat' ((fail_if_success with_reducible refine Stop.mk ?_);(conv=>whnf);with_reducible refine stop ?_)
      all_goals refine Stop.mk ?_
      have hr' : sFail 1 (sUint maxU q).2 = r := by rw [hr]; unfold step2; rw [if_pos ⟨by assumption, by omega⟩]
      rw [hr']
    all_goals try
      have hr' : (sUint maxU q).2 = r := by
        rw [hr]; unfold step2
        first | rw [if_neg (by rintro ⟨_, h⟩; omega)] | rw [if_neg (by rintro ⟨h, _⟩; exact absurd h (by assumption))]
      rw [hr']
    all_goals
      refine call_fn [0] (pbytes_fn (IntKind.i64.wrap (sUint maxU q).1) hcr hwn) rfl ⟨rfl, trivial⟩ (by decide) ?_
      rintro sv H' G' ⟨⟨A', c', rfl, hs⟩, rfl⟩ hg
      refine ⟨Nat.le_of_ble_eq_true rfl, ?_⟩
      replace hc := hcr.to hg
      replace hids := hids.to hg
      replace hv := hv.to hg
      clear hg
      repeat' ((fail_if_success with_reducible refine Stop.mk ?_);(conv=>whnf);with_reducible refine stop ?_)
      all_goals refine Stop.mk ?_
    all_goals
      refine ⟨by simp [Value.oneCell'], ⟨by show (k + 1) * 24 ≤ _; omega, ?_⟩⟩
      repeat' ((fail_if_success with_reducible refine Stop.mk ?_);(conv=>whnf);with_reducible refine stop ?_)
      all_goals refine Stop.mk ?_
      refine tell_gc hE [0, 1] rfl rfl ?_
      (conv => whnf)
      refine tell_here ⟨(k + 1, _, vals ++ [.slice A' (sBytes (IntKind.i64.wrap (sUint maxU q).1) r).1.length c']), ⟨by show k + 1 ≤ _; omega, ?_, hids, ?_⟩, by show ids.length - (k + 1) < ids.length - k; omega, ?_, rfl, ?_⟩
      · show CurOK _ A1 c1 b (splitS (ids.take (k + 1)) (b, 0)).2
        rw [hsplit, hst]; exact hc.next (sBytes_suf _ _)
      · show kBs.Cs _ (splitS (ids.take (k + 1)) (b, 0)).1 _
        rw [hsplit, hst]; exact hv.snoc (R_kBs hs (sBytes_isb hcr.isb))
      · show [curL A1 b c1 (splitS (ids.take (k + 1)) (b, 0)).2, .row _ _ (k + 1) _] = _
        rw [hsplit, hst]; rfl
      · rw [hw2]
        refine ⟨?_⟩
        (conv => whnf)
        (repeat' (first | exact trivial | exact .inl rfl | exact .inr rfl | refine And.intro ?_ ?_))
  · obtain rfl : k = ids.length := by omega
    refine call_fn [0] (pend_fn hc) rfl ⟨rfl, trivial⟩ (by decide) ?_
    rintro sv H' G' ⟨rfl, rfl, rfl⟩ -
    refine ⟨Nat.le_of_ble_eq_true rfl, ?_⟩
    repeat' ((fail_if_success with_reducible refine Stop.mk ?_);(conv=>whnf);with_reducible refine stop ?_)
    all_goals refine Stop.mk ?_
    refine call_fn [0] (perr_fn (p := sEnd p)) rfl ⟨rfl, trivial⟩ (by decide) ?_
    rintro sv H' G' ⟨rfl, rfl, rfl⟩ -
    refine ⟨Nat.le_of_ble_eq_true rfl, ?_⟩
    repeat' ((fail_if_success with_reducible refine Stop.mk ?_);(conv=>whnf);with_reducible first|refine br_n (fun h=>?_) fun h=>?_|refine stop ?_)
    all_goals refine Stop.mk ?_
    all_goals
      rw [List.take_length] at hsp
      have hR : splitR ids b = (outs, (sEnd p).2) := by unfold splitR; rw [hsp]
    · have he : (sEnd p).2 = 0 := by assumption
      refine fin_mk hE [1] (.tup [.s 0, .v (.int .i64 0)]) [.row 22 1 ids.length vals] rfl ⟨rfl, trivial⟩ rfl ?_
      unfold SplitPost
      rw [hR, if_pos he]
      exact ⟨vals, rfl, by rw [← hvl], hv⟩
    · have he : (sEnd p).2 ≠ 0 := by assumption
      refine call_fn [0] (perr_fn (p := sEnd p)) rfl ⟨rfl, trivial⟩ (by decide) ?_
      rintro sv H' G' ⟨rfl, rfl, rfl⟩ -
      refine ⟨Nat.le_of_ble_eq_true rfl, ?_⟩
      repeat' ((fail_if_success with_reducible refine Stop.mk ?_);(conv=>whnf);with_reducible refine stop ?_)
      all_goals refine Stop.mk ?_
      refine fin_id hE 0 rfl rfl rfl rfl ?_
      unfold SplitPost
      rw [hR, if_neg he]
      exact ⟨rfl, rfl⟩
end Go.Proofs.YtchebkpcgglllaaGreat.Cu
