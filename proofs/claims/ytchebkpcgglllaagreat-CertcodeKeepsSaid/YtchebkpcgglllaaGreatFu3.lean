/- Functions: what the reference writes. -/
import Derived.Test.YtchebkpcgglllaaGreatFu2
import Derived.Test.YtchebkpcgglllaaGreatIny
namespace Go.Proofs.YtchebkpcgglllaaGreat.Cu
open Go Go.SX Go.Proofs.YtchebkpcgglllaaGreat.VT
set_option maxRecDepth 100000
set_option linter.unusedVariables false
set_option linter.unusedSimpArgs false

theorem r18put_fn (G : Gh) (l : List Int) (n : Int) (hl : l.length ≤ 1000000) :
    Ct Tryz.prog 98 [.s 0, .v (.int .i64 n)] [rowB l] G fun sv H' G' => sv = .s 0 ∧ H' = [rowB (l ++ pU n)] ∧ G' = G := by
  have hp := pU_len n
  have hn := pU_nat n
  have hrp := rput_fn G (IntKind.u64.wrap n).toNat (by omega)
  rw [Int.toNat_of_nonneg hn.1] at hrp
  refine fn_of follows [] Tryz.func98 rfl rfl fun E hE => ?_
  repeat' ((fail_if_success with_reducible refine Stop.mk ?_);(conv=>whnf);with_reducible refine stop ?_)
  all_goals refine Stop.mk ?_
  refine call_fn [] (hrp) rfl trivial (by decide) ?_
  rintro sv H' G' ⟨rfl, rfl, rfl⟩ -
  refine ⟨Nat.le_of_ble_eq_true rfl, ?_⟩
  repeat' ((fail_if_success with_reducible refine Stop.mk ?_);(conv=>whnf);with_reducible refine stop ?_)
  all_goals refine Stop.mk ?_
  refine ⟨byts_one _, ⟨by show (l.length + (pU n).length) * 1 ≤ _; omega, ?_⟩⟩
  repeat' ((fail_if_success with_reducible refine Stop.mk ?_);(conv=>whnf);with_reducible refine stop ?_)
  all_goals refine Stop.mk ?_
  refine fin_id hE 1 rfl rfl rfl rfl ⟨rfl, ?_, rfl⟩
  rw [← rowB_app']; rfl
theorem r18put0_fn (G : Gh) (n : Int) :
    Ct Tryz.prog 98 [.v (.slice none 0 0), .v (.int .i64 n)] [] G fun sv H' G' => sv = .s 0 ∧ H' = [rowB (pU n)] ∧ G' = G := by
  have hp := pU_len n
  have hn := pU_nat n
  have hrp := rput_fn G (IntKind.u64.wrap n).toNat (by omega)
  rw [Int.toNat_of_nonneg hn.1] at hrp
  refine fn_of follows [] Tryz.func98 rfl rfl fun E hE => ?_
  repeat' ((fail_if_success with_reducible refine Stop.mk ?_);(conv=>whnf);with_reducible refine stop ?_)
  all_goals refine Stop.mk ?_
  refine call_fn [] (hrp) rfl trivial (by decide) ?_
  rintro sv H' G' ⟨rfl, rfl, rfl⟩ -
  refine ⟨Nat.le_of_ble_eq_true rfl, ?_⟩
  repeat' ((fail_if_success with_reducible refine Stop.mk ?_);(conv=>whnf);with_reducible refine stop ?_)
  all_goals refine Stop.mk ?_
  refine ⟨byts_one _, by show (pU n).length * 1 ≤ _; omega, ?_⟩
  repeat' ((fail_if_success with_reducible refine Stop.mk ?_);(conv=>whnf);with_reducible refine stop ?_)
  all_goals refine Stop.mk ?_
  refine fin_mk hE [1] (.s 0) [rowB (pU n)] rfl ⟨rfl, trivial⟩ rfl ⟨rfl, rfl, rfl⟩
theorem pU_nat2 (n : Nat) (h : n < 18446744073709551616) : pU (n : Int) = putB n := by unfold pU; rw [u64_in (by omega) (by omega)]; simp
/-- Source code that may be written by the reference. -/
def opsB (l : List Blk) : Prop := ∀ b ∈ l, ∀ i ∈ b.code, i.op ≠ 18
set_option maxHeartbeats 8000000 in
theorem rputFuncO_fn (G : Gh) (A : Option Addr) (c : Nat) (f : Fn) (hl : kBlk.S G A c f.blocks) (hsz : (wBs f.blocks).length ≤ 500000) (hbl : f.blocks.length ≤ 1000000) (hop : opsB f.blocks) :
    Ct Tryz.prog 47 [fnS A c f] [] G fun sv H' G' => sv = .s 0 ∧ H' = [rowB (wFn f)] := by
  refine fn_of follows [(1, (.cons 0 [] (.cons 1 [] (.cons 3 [] (.cons 4 [] (.cons 6 [] (.cons 7 [] (.cons 8 [] (.cons 2 [1] (.cons 5 [1, 4] (.cons 9 [1, 4, 7] (.cons 10 [] .nil))))))))))))] Tryz.func47 rfl rfl fun E hE => ?_
  have hcap := hl.cap
  have ha := pU_len f.args
  have hr := pU_len f.regs
  have hbn := putB_len f.blocks.length
  unfold fnS
  repeat' ((fail_if_success with_reducible refine Stop.mk ?_);(conv=>whnf);with_reducible first|refine drw (by kernel_rfl) ?_|refine stop ?_)
  all_goals refine Stop.mk ?_
  refine call_fn [] (r18put0_fn _ f.args) rfl trivial (by decide) ?_
  rintro sv H' G' ⟨rfl, rfl, rfl⟩ -
  refine ⟨Nat.le_of_ble_eq_true rfl, ?_⟩
  repeat' ((fail_if_success with_reducible refine Stop.mk ?_);(conv=>whnf);with_reducible refine stop ?_)
  all_goals refine Stop.mk ?_
  refine call_fn [1] (r18put_fn _ (pU f.args) f.regs (by omega)) rfl ⟨rfl, trivial⟩ (by decide) ?_
  rintro sv H' G' ⟨rfl, rfl, rfl⟩ -
  refine ⟨Nat.le_of_ble_eq_true rfl, ?_⟩
  repeat' ((fail_if_success with_reducible refine Stop.mk ?_);(conv=>whnf);with_reducible refine stop ?_)
  all_goals refine Stop.mk ?_
  refine call_fn [1] (r18put_fn _ (pU f.args ++ pU f.regs) f.blocks.length (by simp only [List.length_append]; omega)) rfl ⟨rfl, trivial⟩ (by decide) ?_
  rintro sv H' G' ⟨rfl, rfl, rfl⟩ -
  refine ⟨Nat.le_of_ble_eq_true rfl, ?_⟩
  rw [pU_nat2 _ (by omega)]
  repeat' ((fail_if_success with_reducible refine Stop.mk ?_);(conv=>whnf);with_reducible refine stop ?_)
  all_goals refine Stop.mk ?_
  generalize hV : pU f.args ++ pU f.regs ++ putB f.blocks.length = V at *
  have hVl : V.length ≤ 40 := by rw [← hV]; simp only [List.length_append]; omega
  refine loop_vars follows [(1, (.cons 0 [] (.cons 1 [] (.cons 3 [] (.cons 4 [] (.cons 6 [] (.cons 7 [] (.cons 8 [] (.cons 2 [1] (.cons 5 [1, 4] (.cons 9 [1, 4, 7] (.cons 10 [] .nil))))))))))))] (α := Nat × Gh) (fun x => [(3, .s 1), (4, .v (.int .i64 x.1)), (16, .dead)]) (fun x => [.cells 25 [.v (.int .i64 f.args), .v (.int .i64 f.regs), .v (.slice A f.blocks.length c)], .row 5 1 (V ++ wBs (f.blocks.take x.1)).length (byts (V ++ wBs (f.blocks.take x.1)))]) (fun x => x.2)
    (fun x => x.1 ≤ f.blocks.length ∧ kBlk.S x.2 A c f.blocks) (fun x => f.blocks.length - x.1) (0, _)
    ⟨Nat.zero_le _, hl⟩ (by simp [wBs]) rfl ?_ ?_
  ·
    refine ⟨?_⟩
    (conv => whnf)
    (repeat' (first | exact trivial | exact .inl rfl | exact .inr rfl | refine And.intro ?_ ?_))
  clear hl
  rintro ⟨k, Gk⟩ ⟨hk, hl⟩
  dsimp only at hk hl ⊢
  have hw2 : IntKind.i64.wrap ((k : Int) + 1) = ((k + 1 : Nat) : Int) := by rw [i64_in (by omega) (by omega)]; simp
  have hstep := flat_take encB f.blocks k
  have hmono := flat_mono encB f.blocks (k + 1)
  have hmono0 := flat_mono encB f.blocks k
  have hlen : (V ++ wBs (f.blocks.take k)).length ≤ 500040 := by unfold wBs at hsz ⊢; rw [List.length_append]; omega
  repeat' ((fail_if_success with_reducible refine Stop.mk ?_);(conv=>whnf);with_reducible first|refine br_d (fun h=>?_) fun h=>?_|refine stop ?_)
  all_goals refine Stop.mk ?_
  ·
    obtain ⟨_, hs_, hat_⟩ := hl.at (sz := 5) rfl
    refine ⟨⟨by omega, by omega⟩, _, hs_, fun ad had hadr => ?_⟩
    obtain ⟨b, cells, hb, hRb, hGb⟩ := hat_ k (by omega) ad (by first | exact had | (rw [Int.toNat_natCast] at had; exact had))
    clear had hat_ hs_
    obtain ⟨A', c', rfl, hS, hbt⟩ := hRb
    replace hstep := hstep b hb
    have hcap2 := hS.cap
    have hbe : (putB b.code.length).length + (encCode b.code).length + (putTrmB b.term).length ≤ (encB b).length := by unfold encB; simp only [List.length_append]; omega
    have hfull : (wBs (f.blocks.take k)).length + (encB b).length ≤ 500000 := by
      have := hmono
      rw [hstep, List.length_append] at this
      unfold wBs at hsz ⊢; omega
    have hcl : b.code.length ≤ 1000000 := by
      have h9 : ∀ l : List Ins, l.length ≤ (encCode l).length := fun l => by
        have := encL_len (enc := fun (_ : Unit) => putInsB) (nx := nxU) 1 (fun _ x => (putInsB_len x).1) () l
        unfold encCode; omega
      have := h9 b.code
      omega
    repeat' ((fail_if_success with_reducible refine Stop.mk ?_);(conv=>whnf);with_reducible refine stop ?_)
    all_goals refine Stop.mk ?_
    refine ⟨_, rfl, hGb, ?_⟩
    repeat' ((fail_if_success with_reducible refine Stop.mk ?_);(conv=>whnf);with_reducible refine stop ?_)
    all_goals refine Stop.mk ?_
    generalize hV2 : V ++ wBs (f.blocks.take k) = V2 at *
    refine call_fn [1] (r18put_fn _ V2 b.code.length (by omega)) rfl ⟨rfl, trivial⟩ (by decide) ?_
    rintro sv H' G' ⟨rfl, rfl, rfl⟩ -
    refine ⟨Nat.le_of_ble_eq_true rfl, ?_⟩
    rw [pU_nat2 _ (by omega)]
    repeat' ((fail_if_success with_reducible refine Stop.mk ?_);(conv=>whnf);with_reducible refine stop ?_)
    all_goals refine Stop.mk ?_
    generalize hW : V2 ++ putB b.code.length = W at *
    have hWl : W.length + (encCode b.code).length + (putTrmB b.term).length ≤ 500040 := by
      have : V2.length = V.length + (wBs (f.blocks.take k)).length := by rw [← hV2, List.length_append]
      rw [← hW, List.length_append]; omega
    have hcode : encCode b.code = (b.code.map putInsB).flatten := encCode_eq b.code
    refine loop_opq fun K0 hK0 => ?_
    refine loop_vars follows [(1, (.cons 0 [] (.cons 1 [] (.cons 3 [] (.cons 4 [] (.cons 6 [] (.cons 7 [] (.cons 8 [] (.cons 2 [1] (.cons 5 [1, 4] (.cons 9 [1, 4, 7] (.cons 10 [] .nil))))))))))))] (α := Nat × Gh) (fun x => [(3, .s 1), (6, .v (.int .i64 x.1)), (33, .dead)]) (fun x => [.cells 25 [.v (.int .i64 f.args), .v (.int .i64 f.regs), .v (.slice A f.blocks.length c)], .row 5 1 (W ++ ((b.code.take x.1).map putInsB).flatten).length (byts (W ++ ((b.code.take x.1).map putInsB).flatten)), .cells 60 [.v (.slice A' b.code.length c'), .v (.int .i64 b.term.kind), .v (.int .i64 b.term.a), .v (.int .i64 b.term.to_), .v (.int .i64 b.term.els)]]) (fun x => x.2)
      (fun x => x.1 ≤ b.code.length ∧ kBlk.S x.2 A c f.blocks ∧ kIns.S x.2 A' c' b.code) (fun x => b.code.length - x.1) (0, _)
      ⟨Nat.zero_le _, hl, hS⟩ (by simp) rfl ?_ ?_
    ·
      refine ⟨?_⟩
      (conv => whnf)
      (repeat' (first | exact trivial | exact .inl rfl | exact .inr rfl | refine And.intro ?_ ?_))
    clear hl hS
    rintro ⟨j, Gj⟩ ⟨hj, hl, hS⟩
    dsimp only at hj hl hS ⊢
    have hw3 : IntKind.i64.wrap ((j : Int) + 1) = ((j + 1 : Nat) : Int) := by rw [i64_in (by omega) (by omega)]; simp
    have hstep2 := flat_take putInsB b.code j
    have hmono2 := flat_mono putInsB b.code j
    rw [← hcode] at hmono2
    generalize hU : W ++ ((b.code.take j).map putInsB).flatten = U at *
    have hUl : U.length ≤ 500040 := by rw [← hU, List.length_append]; omega
    repeat' ((fail_if_success with_reducible refine Stop.mk ?_);(conv=>whnf);with_reducible first|refine br_d (fun h=>?_) fun h=>?_|refine stop ?_)
    all_goals refine Stop.mk ?_
    ·
      obtain ⟨_, hs_, hat_⟩ := hS.at (sz := 5) rfl
      refine ⟨⟨by omega, by omega⟩, _, hs_, fun ad had hadr => ?_⟩
      obtain ⟨i, cells, hi, hRi, hGi⟩ := hat_ j (by omega) ad (by first | exact had | (rw [Int.toNat_natCast] at had; exact had))
      clear had hat_ hs_
      obtain ⟨rfl, hiok⟩ := hRi
      have hi18 := hop b (List.mem_of_getElem? hb) i (List.mem_of_getElem? hi)
      have hil := putInsB_len i
      repeat' ((fail_if_success with_reducible refine Stop.mk ?_);(conv=>whnf);with_reducible refine stop ?_)
      all_goals refine Stop.mk ?_
      refine ⟨_, rfl, hGi, ?_⟩
      repeat' ((fail_if_success with_reducible refine Stop.mk ?_);(conv=>whnf);with_reducible refine stop ?_)
      all_goals refine Stop.mk ?_
      refine call_fn [] (r17PutInstr_fn _ i hiok hi18) rfl trivial (by decide) ?_
      rintro sv H' G' ⟨rfl, rfl, rfl⟩ -
      refine ⟨Nat.le_of_ble_eq_true rfl, ?_⟩
      repeat' ((fail_if_success with_reducible refine Stop.mk ?_);(conv=>whnf);with_reducible refine stop ?_)
      all_goals refine Stop.mk ?_
      refine ⟨byts_one _, ⟨by show (U.length + (putInsB i).length) * 1 ≤ _; omega, ?_⟩⟩
      repeat' ((fail_if_success with_reducible refine Stop.mk ?_);(conv=>whnf);with_reducible refine stop ?_)
      all_goals refine Stop.mk ?_
      rw [hw3]
      refine tell_gc hE [0, 1, 2] rfl rfl ?_
      (conv => whnf)
      refine tell_here ⟨(j + 1, _), ⟨by show j + 1 ≤ _; omega, hl, hS⟩, by show b.code.length - (j + 1) < b.code.length - j; omega, ?_, rfl, ?_⟩
      · dsimp only
        rw [hstep2 i hi, ← List.append_assoc, hU]
        simp only [List.length_append, byts_app]
        rfl
      ·
        refine ⟨?_⟩
        (conv => whnf)
        (repeat' (first | exact trivial | exact .inl rfl | exact .inr rfl | refine And.intro ?_ ?_))
    · have hjl : j = b.code.length := by omega
      subst hjl
      refine Stop.mk (hK0 _ _ ?_)
      clear hK0
      repeat' ((fail_if_success with_reducible refine Stop.mk ?_);(conv=>whnf);with_reducible refine stop ?_)
      all_goals refine Stop.mk ?_
      refine call_fn [] (r17PutTerm_fn _ b.term) rfl trivial (by decide) ?_
      rintro sv H' G' ⟨rfl, rfl, rfl⟩ -
      refine ⟨Nat.le_of_ble_eq_true rfl, ?_⟩
      have htl := putTrmB_len b.term
      repeat' ((fail_if_success with_reducible refine Stop.mk ?_);(conv=>whnf);with_reducible refine stop ?_)
      all_goals refine Stop.mk ?_
      refine ⟨byts_one _, ⟨by show (U.length + (putTrmB b.term).length) * 1 ≤ _; omega, ?_⟩⟩
      repeat' ((fail_if_success with_reducible refine Stop.mk ?_);(conv=>whnf);with_reducible refine stop ?_)
      all_goals refine Stop.mk ?_
      rw [hw2]
      refine tell_gc hE [0, 1] rfl rfl ?_
      (conv => whnf)
      refine tell_here ⟨(k + 1, _), ⟨by show k + 1 ≤ _; omega, hl⟩, by show f.blocks.length - (k + 1) < f.blocks.length - k; omega, ?_, rfl, ?_⟩
      · dsimp only
        have e : V ++ wBs (f.blocks.take (k + 1)) = U ++ putTrmB b.term := by
          rw [← hU, ← hW, ← hV2, List.take_length, ← hcode]
          unfold wBs encB at *
          rw [hstep]
          simp only [List.append_assoc]
        rw [e]
        simp only [List.length_append, byts_app]
        rfl
      ·
        refine ⟨?_⟩
        (conv => whnf)
        (repeat' (first | exact trivial | exact .inl rfl | exact .inr rfl | refine And.intro ?_ ?_))
  · have hkl : k = f.blocks.length := by omega
    subst hkl
    rw [List.take_length]
    have e : V ++ wBs f.blocks = wFn f := by rw [← hV]; unfold wFn; simp only [List.append_assoc]
    rw [e]
    exact fin_mk hE [1] (.s 0) [rowB (wFn f)] rfl ⟨rfl, trivial⟩ rfl ⟨rfl, rfl⟩
theorem frzD {P : Program} {f : FuncId} {args : List SV} {G : Gh} {l : List Int} (h : Ct P f args [] G fun sv H' G' => sv = .s 0 ∧ H' = [rowB l]) :
    Ct P f args [] G fun sv H' G' => (∃ A c, sv = .v (.slice A l.length c) ∧ SlB G' A c l) ∧ H' = [] :=
  h.fin fun E sv H' G' hE hp => by
    obtain ⟨rfl, rfl⟩ := hp
    exact fin_done 0 rfl (byts_one _) fun A c G2 hg hs => fin_id hE 0 rfl rfl rfl rfl ⟨⟨A, c, rfl, hs⟩, rfl⟩
theorem rputFunc_fn (G : Gh) (A : Option Addr) (c : Nat) (f : Fn) (hl : kBlk.S G A c f.blocks) (hsz : (wBs f.blocks).length ≤ 500000) (hbl : f.blocks.length ≤ 1000000) (hop : opsB f.blocks) :
    Ct Tryz.prog 47 [fnS A c f] [] G fun sv H' G' => (∃ A c, sv = .v (.slice A (wFn f).length c) ∧ SlB G' A c (wFn f)) ∧ H' = [] :=
  frzD (rputFuncO_fn G A c f hl hsz hbl hop)
set_option maxHeartbeats 8000000 in
theorem rputMFunc_fn (G : Gh) (A : Option Addr) (c : Nat) (f : MFn) (hl : kMBlk.S G A c f.blocks) (hsz : (wMBs f.blocks).length ≤ 500000) (hbl : f.blocks.length ≤ 1000000) :
    Ct Tryz.prog 48 [mfnS A c f] [] G fun sv H' G' => (∃ A c, sv = .v (.slice A (wMFn f).length c) ∧ SlB G' A c (wMFn f)) ∧ H' = [] := by
  refine fn_of follows [(1, (.cons 0 [] (.cons 1 [] (.cons 3 [] (.cons 4 [] (.cons 6 [] (.cons 7 [] (.cons 9 [] (.cons 10 [] (.cons 11 [] (.cons 2 [1] (.cons 5 [1, 4] (.cons 8 [1, 4, 7] (.cons 12 [1, 4, 7, 10] (.cons 13 [] .nil)))))))))))))))] Tryz.func48 rfl rfl fun E hE => ?_
  have hcap := hl.cap
  have ha := pU_len f.args
  have hr := pU_len f.regs
  have hsl := pU_len f.slots
  have hbn := putB_len f.blocks.length
  unfold mfnS
  repeat' ((fail_if_success with_reducible refine Stop.mk ?_);(conv=>whnf);with_reducible first|refine drw (by kernel_rfl) ?_|refine stop ?_)
  all_goals refine Stop.mk ?_
  refine call_fn [] (r18put0_fn _ f.args) rfl trivial (by decide) ?_
  rintro sv H' G' ⟨rfl, rfl, rfl⟩ -
  refine ⟨Nat.le_of_ble_eq_true rfl, ?_⟩
  repeat' ((fail_if_success with_reducible refine Stop.mk ?_);(conv=>whnf);with_reducible refine stop ?_)
  all_goals refine Stop.mk ?_
  refine call_fn [1] (r18put_fn _ (pU f.args) f.regs (by omega)) rfl ⟨rfl, trivial⟩ (by decide) ?_
  rintro sv H' G' ⟨rfl, rfl, rfl⟩ -
  refine ⟨Nat.le_of_ble_eq_true rfl, ?_⟩
  repeat' ((fail_if_success with_reducible refine Stop.mk ?_);(conv=>whnf);with_reducible refine stop ?_)
  all_goals refine Stop.mk ?_
  refine call_fn [1] (r18put_fn _ (pU f.args ++ pU f.regs) f.slots (by simp only [List.length_append]; omega)) rfl ⟨rfl, trivial⟩ (by decide) ?_
  rintro sv H' G' ⟨rfl, rfl, rfl⟩ -
  refine ⟨Nat.le_of_ble_eq_true rfl, ?_⟩
  repeat' ((fail_if_success with_reducible refine Stop.mk ?_);(conv=>whnf);with_reducible refine stop ?_)
  all_goals refine Stop.mk ?_
  refine call_fn [1] (r18put_fn _ (pU f.args ++ pU f.regs ++ pU f.slots) f.blocks.length (by simp only [List.length_append]; omega)) rfl ⟨rfl, trivial⟩ (by decide) ?_
  rintro sv H' G' ⟨rfl, rfl, rfl⟩ -
  refine ⟨Nat.le_of_ble_eq_true rfl, ?_⟩
  rw [pU_nat2 _ (by omega)]
  repeat' ((fail_if_success with_reducible refine Stop.mk ?_);(conv=>whnf);with_reducible refine stop ?_)
  all_goals refine Stop.mk ?_
  generalize hV : pU f.args ++ pU f.regs ++ pU f.slots ++ putB f.blocks.length = V at *
  have hVl : V.length ≤ 60 := by rw [← hV]; simp only [List.length_append]; omega
  refine loop_vars follows [(1, (.cons 0 [] (.cons 1 [] (.cons 3 [] (.cons 4 [] (.cons 6 [] (.cons 7 [] (.cons 9 [] (.cons 10 [] (.cons 11 [] (.cons 2 [1] (.cons 5 [1, 4] (.cons 8 [1, 4, 7] (.cons 12 [1, 4, 7, 10] (.cons 13 [] .nil)))))))))))))))] (α := Nat × Gh) (fun x => [(3, .s 1), (4, .v (.int .i64 x.1)), (19, .dead)]) (fun x => [.cells 28 [.v (.int .i64 f.args), .v (.int .i64 f.regs), .v (.int .i64 f.slots), .v (.slice A f.blocks.length c)], .row 5 1 (V ++ wMBs (f.blocks.take x.1)).length (byts (V ++ wMBs (f.blocks.take x.1)))]) (fun x => x.2)
    (fun x => x.1 ≤ f.blocks.length ∧ kMBlk.S x.2 A c f.blocks) (fun x => f.blocks.length - x.1) (0, _)
    ⟨Nat.zero_le _, hl⟩ (by simp [wMBs]) rfl ?_ ?_
  ·
    refine ⟨?_⟩
    (conv => whnf)
    (repeat' (first | exact trivial | exact .inl rfl | exact .inr rfl | refine And.intro ?_ ?_))
  clear hl
  rintro ⟨k, Gk⟩ ⟨hk, hl⟩
  dsimp only at hk hl ⊢
  have hw2 : IntKind.i64.wrap ((k : Int) + 1) = ((k + 1 : Nat) : Int) := by rw [i64_in (by omega) (by omega)]; simp
  have hstep := flat_take encMB f.blocks k
  have hmono := flat_mono encMB f.blocks (k + 1)
  have hmono0 := flat_mono encMB f.blocks k
  have hlen : (V ++ wMBs (f.blocks.take k)).length ≤ 500060 := by unfold wMBs at hsz ⊢; rw [List.length_append]; omega
  repeat' ((fail_if_success with_reducible refine Stop.mk ?_);(conv=>whnf);with_reducible first|refine br_d (fun h=>?_) fun h=>?_|refine stop ?_)
  all_goals refine Stop.mk ?_
  ·
    obtain ⟨_, hs_, hat_⟩ := hl.at (sz := 5) rfl
    refine ⟨⟨by omega, by omega⟩, _, hs_, fun ad had hadr => ?_⟩
    obtain ⟨b, cells, hb, hRb, hGb⟩ := hat_ k (by omega) ad (by first | exact had | (rw [Int.toNat_natCast] at had; exact had))
    clear had hat_ hs_
    obtain ⟨A', c', rfl, hS, hbt⟩ := hRb
    replace hstep := hstep b hb
    have hcap2 := hS.cap
    have hbe : (putB b.code.length).length + (encMCode b.code).length + (putTrmB b.term).length ≤ (encMB b).length := by unfold encMB; simp only [List.length_append]; omega
    have hfull : (wMBs (f.blocks.take k)).length + (encMB b).length ≤ 500000 := by
      have := hmono
      rw [hstep, List.length_append] at this
      unfold wMBs at hsz ⊢; omega
    have hcl : b.code.length ≤ 1000000 := by
      have h9 : ∀ l : List Mac, l.length ≤ (encMCode l).length := fun l => by
        have := encL_len (enc := fun (_ : Int) => putMacB) (nx := nxR) 1 (fun _ x => (putMacB_len x).1) 0 l
        unfold encMCode; omega
      have := h9 b.code
      omega
    repeat' ((fail_if_success with_reducible refine Stop.mk ?_);(conv=>whnf);with_reducible refine stop ?_)
    all_goals refine Stop.mk ?_
    refine ⟨_, rfl, hGb, ?_⟩
    repeat' ((fail_if_success with_reducible refine Stop.mk ?_);(conv=>whnf);with_reducible refine stop ?_)
    all_goals refine Stop.mk ?_
    generalize hV2 : V ++ wMBs (f.blocks.take k) = V2 at *
    refine call_fn [1] (r18put_fn _ V2 b.code.length (by omega)) rfl ⟨rfl, trivial⟩ (by decide) ?_
    rintro sv H' G' ⟨rfl, rfl, rfl⟩ -
    refine ⟨Nat.le_of_ble_eq_true rfl, ?_⟩
    rw [pU_nat2 _ (by omega)]
    repeat' ((fail_if_success with_reducible refine Stop.mk ?_);(conv=>whnf);with_reducible refine stop ?_)
    all_goals refine Stop.mk ?_
    generalize hW : V2 ++ putB b.code.length = W at *
    have hWl : W.length + (encMCode b.code).length + (putTrmB b.term).length ≤ 500060 := by
      have : V2.length = V.length + (wMBs (f.blocks.take k)).length := by rw [← hV2, List.length_append]
      rw [← hW, List.length_append]; omega
    have hcode : encMCode b.code = (b.code.map putMacB).flatten := encMCode_eq b.code
    refine loop_opq fun K0 hK0 => ?_
    refine loop_vars follows [(1, (.cons 0 [] (.cons 1 [] (.cons 3 [] (.cons 4 [] (.cons 6 [] (.cons 7 [] (.cons 9 [] (.cons 10 [] (.cons 11 [] (.cons 2 [1] (.cons 5 [1, 4] (.cons 8 [1, 4, 7] (.cons 12 [1, 4, 7, 10] (.cons 13 [] .nil)))))))))))))))] (α := Nat × Gh) (fun x => [(3, .s 1), (6, .v (.int .i64 x.1)), (36, .dead)]) (fun x => [.cells 28 [.v (.int .i64 f.args), .v (.int .i64 f.regs), .v (.int .i64 f.slots), .v (.slice A f.blocks.length c)], .row 5 1 (W ++ ((b.code.take x.1).map putMacB).flatten).length (byts (W ++ ((b.code.take x.1).map putMacB).flatten)), .cells 63 [.v (.slice A' b.code.length c'), .v (.int .i64 b.term.kind), .v (.int .i64 b.term.a), .v (.int .i64 b.term.to_), .v (.int .i64 b.term.els)]]) (fun x => x.2)
      (fun x => x.1 ≤ b.code.length ∧ kMBlk.S x.2 A c f.blocks ∧ kMac.S x.2 A' c' b.code) (fun x => b.code.length - x.1) (0, _)
      ⟨Nat.zero_le _, hl, hS⟩ (by simp) rfl ?_ ?_
    ·
      refine ⟨?_⟩
      (conv => whnf)
      (repeat' (first | exact trivial | exact .inl rfl | exact .inr rfl | refine And.intro ?_ ?_))
    clear hl hS
    rintro ⟨j, Gj⟩ ⟨hj, hl, hS⟩
    dsimp only at hj hl hS ⊢
    have hw3 : IntKind.i64.wrap ((j : Int) + 1) = ((j + 1 : Nat) : Int) := by rw [i64_in (by omega) (by omega)]; simp
    have hstep2 := flat_take putMacB b.code j
    have hmono2 := flat_mono putMacB b.code j
    rw [← hcode] at hmono2
    generalize hU : W ++ ((b.code.take j).map putMacB).flatten = U at *
    have hUl : U.length ≤ 500060 := by rw [← hU, List.length_append]; omega
    repeat' ((fail_if_success with_reducible refine Stop.mk ?_);(conv=>whnf);with_reducible first|refine br_d (fun h=>?_) fun h=>?_|refine stop ?_)
    all_goals refine Stop.mk ?_
    ·
      obtain ⟨_, hs_, hat_⟩ := hS.at (sz := 7) rfl
      refine ⟨⟨by omega, by omega⟩, _, hs_, fun ad had hadr => ?_⟩
      obtain ⟨i, cells, hi, hRi, hGi⟩ := hat_ j (by omega) ad (by first | exact had | (rw [Int.toNat_natCast] at had; exact had))
      clear had hat_ hs_
      obtain ⟨rfl, hiok⟩ := hRi
      have hil := putMacB_len i
      repeat' ((fail_if_success with_reducible refine Stop.mk ?_);(conv=>whnf);with_reducible refine stop ?_)
      all_goals refine Stop.mk ?_
      refine ⟨_, rfl, hGi, ?_⟩
      repeat' ((fail_if_success with_reducible refine Stop.mk ?_);(conv=>whnf);with_reducible refine stop ?_)
      all_goals refine Stop.mk ?_
      refine call_fn [] (r17Put_fn _ i hiok) rfl trivial (by decide) ?_
      rintro sv H' G' ⟨rfl, rfl, rfl⟩ -
      refine ⟨Nat.le_of_ble_eq_true rfl, ?_⟩
      repeat' ((fail_if_success with_reducible refine Stop.mk ?_);(conv=>whnf);with_reducible refine stop ?_)
      all_goals refine Stop.mk ?_
      refine ⟨byts_one _, ⟨by show (U.length + (putMacB i).length) * 1 ≤ _; omega, ?_⟩⟩
      repeat' ((fail_if_success with_reducible refine Stop.mk ?_);(conv=>whnf);with_reducible refine stop ?_)
      all_goals refine Stop.mk ?_
      rw [hw3]
      refine tell_gc hE [0, 1, 2] rfl rfl ?_
      (conv => whnf)
      refine tell_here ⟨(j + 1, _), ⟨by show j + 1 ≤ _; omega, hl, hS⟩, by show b.code.length - (j + 1) < b.code.length - j; omega, ?_, rfl, ?_⟩
      · dsimp only
        rw [hstep2 i hi, ← List.append_assoc, hU]
        simp only [List.length_append, byts_app]
        rfl
      ·
        refine ⟨?_⟩
        (conv => whnf)
        (repeat' (first | exact trivial | exact .inl rfl | exact .inr rfl | refine And.intro ?_ ?_))
    · have hjl : j = b.code.length := by omega
      subst hjl
      refine Stop.mk (hK0 _ _ ?_)
      clear hK0
      repeat' ((fail_if_success with_reducible refine Stop.mk ?_);(conv=>whnf);with_reducible refine stop ?_)
      all_goals refine Stop.mk ?_
      refine call_fn [] (r17PutTerm_fn _ b.term) rfl trivial (by decide) ?_
      rintro sv H' G' ⟨rfl, rfl, rfl⟩ -
      refine ⟨Nat.le_of_ble_eq_true rfl, ?_⟩
      have htl := putTrmB_len b.term
      repeat' ((fail_if_success with_reducible refine Stop.mk ?_);(conv=>whnf);with_reducible refine stop ?_)
      all_goals refine Stop.mk ?_
      refine ⟨byts_one _, ⟨by show (U.length + (putTrmB b.term).length) * 1 ≤ _; omega, ?_⟩⟩
      repeat' ((fail_if_success with_reducible refine Stop.mk ?_);(conv=>whnf);with_reducible refine stop ?_)
      all_goals refine Stop.mk ?_
      rw [hw2]
      refine tell_gc hE [0, 1] rfl rfl ?_
      (conv => whnf)
      refine tell_here ⟨(k + 1, _), ⟨by show k + 1 ≤ _; omega, hl⟩, by show f.blocks.length - (k + 1) < f.blocks.length - k; omega, ?_, rfl, ?_⟩
      · dsimp only
        have e : V ++ wMBs (f.blocks.take (k + 1)) = U ++ putTrmB b.term := by
          rw [← hU, ← hW, ← hV2, List.take_length, ← hcode]
          unfold wMBs encMB at *
          rw [hstep]
          simp only [List.append_assoc]
        rw [e]
        simp only [List.length_append, byts_app]
        rfl
      ·
        refine ⟨?_⟩
        (conv => whnf)
        (repeat' (first | exact trivial | exact .inl rfl | exact .inr rfl | refine And.intro ?_ ?_))
  · have hkl : k = f.blocks.length := by omega
    subst hkl
    rw [List.take_length]
    refine fin_done 1 rfl (byts_one _) fun A2 c2 G2 hg hs => fin_id hE 0 rfl rfl rfl rfl ⟨⟨A2, c2, ?_, ?_⟩, rfl⟩
    · have e : wMFn f = V ++ wMBs f.blocks := by rw [← hV]; unfold wMFn; simp only [List.append_assoc]
      rw [e]
      rfl
    · have e : wMFn f = V ++ wMBs f.blocks := by rw [← hV]; unfold wMFn; simp only [List.append_assoc]
      rw [e]
      exact hs
end Go.Proofs.YtchebkpcgglllaaGreat.Cu
