/- Functions: what is written. -/
import Derived.Test.YtchebkpcgglllaaGreatFu1
import Derived.Test.YtchebkpcgglllaaGreatNux
import Derived.Test.YtchebkpcgglllaaGreatSXc
namespace Go.Proofs.YtchebkpcgglllaaGreat.Cu
open Go Go.SX Go.Proofs.YtchebkpcgglllaaGreat.VT
set_option maxRecDepth 100000
set_option linter.unusedVariables false
set_option linter.unusedSimpArgs false

/-! ### prefixes -/
theorem encCode_eq : ∀ (l : List Ins), encCode l = (l.map putInsB).flatten
  | [] => rfl
  | i :: l => by
    have := encCode_eq l
    unfold encCode at this ⊢
    simp only [encL, List.map_cons, List.flatten_cons]
    rw [← this]
theorem encMCode_eq' : ∀ (l : List Mac) (s : Int), encL (fun _ => putMacB) nxR s l = (l.map putMacB).flatten
  | [], s => rfl
  | i :: l, s => by
    simp only [encL, List.map_cons, List.flatten_cons]
    rw [encMCode_eq' l]
theorem encMCode_eq (l : List Mac) : encMCode l = (l.map putMacB).flatten := encMCode_eq' l 0
theorem encBs_eq' : ∀ (l : List Blk) (s : Int), encL (fun _ => encB) nxB s l = (l.map encB).flatten
  | [], s => rfl
  | i :: l, s => by
    simp only [encL, List.map_cons, List.flatten_cons]
    rw [encBs_eq' l]
theorem encMBs_eq' : ∀ (l : List MBlk) (s : Int), encL (fun _ => encMB) nxMB s l = (l.map encMB).flatten
  | [], s => rfl
  | i :: l, s => by
    simp only [encL, List.map_cons, List.flatten_cons]
    rw [encMBs_eq' l]
theorem flat_take {α : Type} (f : α → List Int) (l : List α) (k : Nat) (x : α) (h : l[k]? = some x) : ((l.take (k + 1)).map f).flatten = ((l.take k).map f).flatten ++ f x := by
  rw [List.take_add_one, h]
  simp
theorem flat_mono {α : Type} (f : α → List Int) : ∀ (l : List α) (k : Nat), ((l.take k).map f).flatten.length ≤ ((l.map f).flatten).length
  | [], k => by simp
  | x :: l, 0 => by simp
  | x :: l, k + 1 => by have := flat_mono f l k; simp only [List.take_succ_cons, List.map_cons, List.flatten_cons, List.length_append]; omega
/-- All that is written of a function, but its numbers. -/
def wBs (l : List Blk) : List Int := (l.map encB).flatten
def wMBs (l : List MBlk) : List Int := (l.map encMB).flatten
def wFn (f : Fn) : List Int := pU f.args ++ pU f.regs ++ putB f.blocks.length ++ wBs f.blocks
def wMFn (f : MFn) : List Int := pU f.args ++ pU f.regs ++ pU f.slots ++ putB f.blocks.length ++ wMBs f.blocks
/-- Terminators that may be written. -/
def trmsB (l : List Blk) : Prop := ∀ b ∈ l, 1 ≤ b.term.kind ∧ b.term.kind ≤ 3
def trmsM (l : List MBlk) : Prop := ∀ b ∈ l, 1 ≤ b.term.kind ∧ b.term.kind ≤ 3
set_option maxHeartbeats 8000000 in
theorem putFunc_fn (G : Gh) (A : Option Addr) (c : Nat) (f : Fn) (xs : List Int) (hl : kBlk.S G A c f.blocks) (hsz : (wBs f.blocks).length ≤ 500000) (hx : xs.length ≤ 200000) (hbl : f.blocks.length ≤ 1000000) (htr : trmsB f.blocks) :
    Ct Tryz.prog 40 [.p 0 0, fnS A c f] (wrH xs) G fun sv H' G' => sv = .tup [] ∧ H' = wrH (xs ++ wFn f) := by
  refine fn_of follows [] Tryz.func40 rfl rfl fun E hE => ?_
  have hcap := hl.cap
  have ha := pU_len f.args
  have hr := pU_len f.regs
  have hbn := putB_len f.blocks.length
  unfold fnS
  repeat' ((fail_if_success with_reducible refine Stop.mk ?_);(conv=>whnf);with_reducible refine stop ?_)
  all_goals refine Stop.mk ?_
  refine call_fn [0, 1] (wU_fn _ f.args xs (by omega)) rfl ⟨rfl, rfl, trivial⟩ (by decide) ?_
  rintro sv H' G' ⟨rfl, rfl⟩ hg
  refine ⟨Nat.le_of_ble_eq_true rfl, ?_⟩
  replace hl := hl.to hg
  clear hg
  repeat' ((fail_if_success with_reducible refine Stop.mk ?_);(conv=>whnf);with_reducible refine stop ?_)
  all_goals refine Stop.mk ?_
  refine call_fn [0, 1] (wU_fn _ f.regs (xs ++ pU f.args) (by rw [List.length_append]; omega)) rfl ⟨rfl, rfl, trivial⟩ (by decide) ?_
  rintro sv H' G' ⟨rfl, rfl⟩ hg
  refine ⟨Nat.le_of_ble_eq_true rfl, ?_⟩
  replace hl := hl.to hg
  clear hg
  repeat' ((fail_if_success with_reducible refine Stop.mk ?_);(conv=>whnf);with_reducible refine stop ?_)
  all_goals refine Stop.mk ?_
  rw [u64_in (n := (f.blocks.length : Int)) (by omega) (by omega)]
  refine call_fn [0, 1] (wuint_fn _ f.blocks.length (xs ++ pU f.args ++ pU f.regs) (by omega) (by simp only [List.length_append]; omega)) rfl ⟨rfl, rfl, trivial⟩ (by decide) ?_
  rintro sv H' G' ⟨rfl, rfl⟩ hg
  refine ⟨Nat.le_of_ble_eq_true rfl, ?_⟩
  replace hl := hl.to hg
  clear hg
  repeat' ((fail_if_success with_reducible refine Stop.mk ?_);(conv=>whnf);with_reducible refine stop ?_)
  all_goals refine Stop.mk ?_
  generalize hV : xs ++ pU f.args ++ pU f.regs ++ putB f.blocks.length = V at *
  have hVl : V.length ≤ 200040 := by rw [← hV]; simp only [List.length_append]; omega
  refine loop_vars follows [] (α := Nat × Gh) (fun x => [(27, .v (.int .i64 x.1))]) (fun x => [.cells 95 [.s 1], .row 5 1 (V ++ wBs (f.blocks.take x.1)).length (byts (V ++ wBs (f.blocks.take x.1))), .cells 25 [.v (.int .i64 f.args), .v (.int .i64 f.regs), .v (.slice A f.blocks.length c)]]) (fun x => x.2)
    (fun x => x.1 ≤ f.blocks.length ∧ kBlk.S x.2 A c f.blocks) (fun x => f.blocks.length - x.1) (0, G')
    ⟨Nat.zero_le _, hl⟩ (by simp [wBs]) rfl ?_ ?_
  ·
    refine ⟨?_⟩
    (conv => whnf)
    (repeat' (first | exact trivial | exact .inl rfl | exact .inr rfl | refine And.intro ?_ ?_))
  clear hl
  rintro ⟨k, Gk⟩ ⟨hk, hl⟩
  dsimp only at hk hl ⊢
  have hw2 : IntKind.i64.wrap ((k : Int) + 1) = ((k + 1 : Nat) : Int) := by rw [i64_in (by omega) (by omega)]; simp
  have hstep := flat_take encB f.blocks k
  have hmono := flat_mono encB f.blocks (k + 1)
  have hmono0 := flat_mono encB f.blocks k
  have hlen : (V ++ wBs (f.blocks.take k)).length ≤ 700040 := by unfold wBs at hsz ⊢; rw [List.length_append]; omega
  repeat' ((fail_if_success with_reducible refine Stop.mk ?_);(conv=>whnf);with_reducible first|refine br_d (fun h=>?_) fun h=>?_|refine stop ?_)
  all_goals refine Stop.mk ?_
  ·
    obtain ⟨_, hs_, hat_⟩ := hl.at (sz := 5) rfl
    refine ⟨⟨by omega, by omega⟩, _, hs_, fun ad had hadr => ?_⟩
    obtain ⟨b, cells, hb, hRb, hGb⟩ := hat_ k (by omega) ad (by first | exact had | (rw [Int.toNat_natCast] at had; exact had))
    clear had hat_ hs_
    obtain ⟨A', c', rfl, hS, hbt⟩ := hRb
    replace hstep := hstep b hb
    repeat' ((fail_if_success with_reducible refine Stop.mk ?_);(conv=>whnf);with_reducible refine stop ?_)
    all_goals refine Stop.mk ?_
    refine ⟨_, rfl, hGb, ?_⟩
    repeat' ((fail_if_success with_reducible refine Stop.mk ?_);(conv=>whnf);with_reducible refine stop ?_)
    all_goals refine Stop.mk ?_
    have hcap2 := hS.cap
    have hbe : (putB b.code.length).length + (encCode b.code).length + (putTrmB b.term).length ≤ (encB b).length := by unfold encB; simp only [List.length_append]; omega
    have hfull : (wBs (f.blocks.take k)).length + (encB b).length ≤ 500000 := by
      have := hmono
      rw [hstep, List.length_append] at this
      unfold wBs at hsz ⊢; omega
    have hcl : b.code.length ≤ 1000000 := by
      have h9 : ∀ l : List Ins, l.length ≤ (encCode l).length := fun l => by
        have := encL_len (enc := fun (_ : Unit) => putInsB) (nx := nxU) 1 (fun _ x => (putInsB_len x).1) () l
        unfold encCode; omega
      have := h9 b.code
      omega
    rw [u64_in (n := (b.code.length : Int)) (by omega) (by omega)]
    refine call_fn [0, 1] (wuint_fn _ b.code.length _ (by omega) (by omega)) rfl ⟨rfl, rfl, trivial⟩ (by decide) ?_
    rintro sv H' G' ⟨rfl, rfl⟩ hg
    refine ⟨Nat.le_of_ble_eq_true rfl, ?_⟩
    replace hl := hl.to hg
    replace hS := hS.to hg
    clear hg
    repeat' ((fail_if_success with_reducible refine Stop.mk ?_);(conv=>whnf);with_reducible refine stop ?_)
    all_goals refine Stop.mk ?_
    generalize hW : V ++ wBs (f.blocks.take k) ++ putB b.code.length = W at *
    have hWl : W.length + (encCode b.code).length + (putTrmB b.term).length ≤ 740000 := by rw [← hW]; simp only [List.length_append]; omega
    have hcode : encCode b.code = (b.code.map putInsB).flatten := encCode_eq b.code
    refine loop_opq fun K0 hK0 => ?_
    refine loop_vars follows [] (α := Nat × Gh) (fun x => [(40, .v (.int .i64 x.1))]) (fun x => [.cells 95 [.s 1], .row 5 1 (W ++ ((b.code.take x.1).map putInsB).flatten).length (byts (W ++ ((b.code.take x.1).map putInsB).flatten)), .cells 25 [.v (.int .i64 f.args), .v (.int .i64 f.regs), .v (.slice A f.blocks.length c)], .cells 60 [.v (.slice A' b.code.length c'), .v (.int .i64 b.term.kind), .v (.int .i64 b.term.a), .v (.int .i64 b.term.to_), .v (.int .i64 b.term.els)]]) (fun x => x.2)
      (fun x => x.1 ≤ b.code.length ∧ kBlk.S x.2 A c f.blocks ∧ kIns.S x.2 A' c' b.code) (fun x => b.code.length - x.1) (0, G')
      ⟨Nat.zero_le _, hl, hS⟩ (by simp) rfl ?_ ?_
    ·
      refine ⟨?_⟩
      (conv => whnf)
      (repeat' (first | exact trivial | exact .inl rfl | exact .inr rfl | refine And.intro ?_ ?_))
    clear hl hS
    rintro ⟨j, Gj⟩ ⟨hj, hl, hS⟩
    dsimp only at hj hl hS ⊢
    have hw3 : IntKind.i64.wrap ((j : Int) + 1) = ((j + 1 : Nat) : Int) := by rw [i64_in (by omega) (by omega)]; simp
    have hstep2 := flat_take putInsB b.code j
    have hmono2 := flat_mono putInsB b.code j
    rw [← hcode] at hmono2
    generalize hU : W ++ ((b.code.take j).map putInsB).flatten = U at *
    have hUl : U.length ≤ 740000 := by rw [← hU, List.length_append]; omega
    repeat' ((fail_if_success with_reducible refine Stop.mk ?_);(conv=>whnf);with_reducible first|refine br_d (fun h=>?_) fun h=>?_|refine stop ?_)
    all_goals refine Stop.mk ?_
    ·
      obtain ⟨_, hs_, hat_⟩ := hS.at (sz := 5) rfl
      refine ⟨⟨by omega, by omega⟩, _, hs_, fun ad had hadr => ?_⟩
      obtain ⟨i, cells, hi, hRi, hGi⟩ := hat_ j (by omega) ad (by first | exact had | (rw [Int.toNat_natCast] at had; exact had))
      clear had hat_ hs_
      obtain ⟨rfl, hiok⟩ := hRi
      repeat' ((fail_if_success with_reducible refine Stop.mk ?_);(conv=>whnf);with_reducible refine stop ?_)
      all_goals refine Stop.mk ?_
      refine ⟨_, rfl, hGi, ?_⟩
      repeat' ((fail_if_success with_reducible refine Stop.mk ?_);(conv=>whnf);with_reducible refine stop ?_)
      all_goals refine Stop.mk ?_
      refine call_fn [0, 1] (putInstr_fn _ i U hiok (by omega)) rfl ⟨rfl, rfl, trivial⟩ (by decide) ?_
      rintro sv H' G' ⟨rfl, rfl⟩ hg
      refine ⟨Nat.le_of_ble_eq_true rfl, ?_⟩
      replace hl := hl.to hg
      replace hS := hS.to hg
      clear hg
      repeat' ((fail_if_success with_reducible refine Stop.mk ?_);(conv=>whnf);with_reducible refine stop ?_)
      all_goals refine Stop.mk ?_
      rw [hw3]
      refine tell_gc hE [0, 1, 2, 3] rfl rfl ?_
      (conv => whnf)
      refine tell_here ⟨(j + 1, _), ⟨by show j + 1 ≤ _; omega, hl, hS⟩, by show b.code.length - (j + 1) < b.code.length - j; omega, ?_, rfl, ?_⟩
      · dsimp only
        rw [hstep2 i hi, ← hU, List.append_assoc]
      ·
        refine ⟨?_⟩
        (conv => whnf)
        (repeat' (first | exact trivial | exact .inl rfl | exact .inr rfl | refine And.intro ?_ ?_))
    · have hjl : j = b.code.length := by omega
      subst hjl
      refine Stop.mk (hK0 _ _ ?_)
      clear hK0
      repeat' ((fail_if_success with_reducible refine Stop.mk ?_);(conv=>whnf);with_reducible refine stop ?_)
      all_goals refine Stop.mk ?_
      refine call_fn [0, 1] (putTerm_fn _ b.term U (htr b (List.mem_of_getElem? hb)) (by omega)) rfl ⟨rfl, rfl, trivial⟩ (by decide) ?_
      rintro sv H' G' ⟨rfl, rfl⟩ hg
      refine ⟨Nat.le_of_ble_eq_true rfl, ?_⟩
      replace hl := hl.to hg
      clear hg
      repeat' ((fail_if_success with_reducible refine Stop.mk ?_);(conv=>whnf);with_reducible refine stop ?_)
      all_goals refine Stop.mk ?_
      rw [hw2]
      refine tell_gc hE [0, 1, 2] rfl rfl ?_
      (conv => whnf)
      refine tell_here ⟨(k + 1, _), ⟨by show k + 1 ≤ _; omega, hl⟩, by show f.blocks.length - (k + 1) < f.blocks.length - k; omega, ?_, rfl, ?_⟩
      · dsimp only
        have e : V ++ wBs (f.blocks.take (k + 1)) = U ++ putTrmB b.term := by
          rw [← hU, ← hW, List.take_length, ← hcode]
          unfold wBs encB at *
          rw [hstep]
          simp only [List.append_assoc]
        rw [e]
      ·
        refine ⟨?_⟩
        (conv => whnf)
        (repeat' (first | exact trivial | exact .inl rfl | exact .inr rfl | refine And.intro ?_ ?_))
  · have hkl : k = f.blocks.length := by omega
    subst hkl
    rw [List.take_length]
    refine fin_id hE 2 rfl rfl rfl rfl ⟨rfl, ?_⟩
    rw [← hV]
    unfold wFn
    simp only [List.append_assoc]
    rfl
set_option maxHeartbeats 8000000 in
theorem putMFunc_fn (G : Gh) (A : Option Addr) (c : Nat) (f : MFn) (xs : List Int) (hl : kMBlk.S G A c f.blocks) (hsz : (wMBs f.blocks).length ≤ 500000) (hx : xs.length ≤ 200000) (hbl : f.blocks.length ≤ 1000000) (htr : trmsM f.blocks) :
    Ct Tryz.prog 41 [.p 0 0, mfnS A c f] (wrH xs) G fun sv H' G' => sv = .tup [] ∧ H' = wrH (xs ++ wMFn f) := by
  refine fn_of follows [] Tryz.func41 rfl rfl fun E hE => ?_
  have hcap := hl.cap
  have ha := pU_len f.args
  have hr := pU_len f.regs
  have hsl := pU_len f.slots
  have hbn := putB_len f.blocks.length
  unfold mfnS
  repeat' ((fail_if_success with_reducible refine Stop.mk ?_);(conv=>whnf);with_reducible refine stop ?_)
  all_goals refine Stop.mk ?_
  refine call_fn [0, 1] (wU_fn _ f.args xs (by omega)) rfl ⟨rfl, rfl, trivial⟩ (by decide) ?_
  rintro sv H' G' ⟨rfl, rfl⟩ hg
  refine ⟨Nat.le_of_ble_eq_true rfl, ?_⟩
  replace hl := hl.to hg
  clear hg
  repeat' ((fail_if_success with_reducible refine Stop.mk ?_);(conv=>whnf);with_reducible refine stop ?_)
  all_goals refine Stop.mk ?_
  refine call_fn [0, 1] (wU_fn _ f.regs (xs ++ pU f.args) (by rw [List.length_append]; omega)) rfl ⟨rfl, rfl, trivial⟩ (by decide) ?_
  rintro sv H' G' ⟨rfl, rfl⟩ hg
  refine ⟨Nat.le_of_ble_eq_true rfl, ?_⟩
  replace hl := hl.to hg
  clear hg
  repeat' ((fail_if_success with_reducible refine Stop.mk ?_);(conv=>whnf);with_reducible refine stop ?_)
  all_goals refine Stop.mk ?_
  refine call_fn [0, 1] (wU_fn _ f.slots (xs ++ pU f.args ++ pU f.regs) (by simp only [List.length_append]; omega)) rfl ⟨rfl, rfl, trivial⟩ (by decide) ?_
  rintro sv H' G' ⟨rfl, rfl⟩ hg
  refine ⟨Nat.le_of_ble_eq_true rfl, ?_⟩
  replace hl := hl.to hg
  clear hg
  repeat' ((fail_if_success with_reducible refine Stop.mk ?_);(conv=>whnf);with_reducible refine stop ?_)
  all_goals refine Stop.mk ?_
  rw [u64_in (n := (f.blocks.length : Int)) (by omega) (by omega)]
  refine call_fn [0, 1] (wuint_fn _ f.blocks.length (xs ++ pU f.args ++ pU f.regs ++ pU f.slots) (by omega) (by simp only [List.length_append]; omega)) rfl ⟨rfl, rfl, trivial⟩ (by decide) ?_
  rintro sv H' G' ⟨rfl, rfl⟩ hg
  refine ⟨Nat.le_of_ble_eq_true rfl, ?_⟩
  replace hl := hl.to hg
  clear hg
  repeat' ((fail_if_success with_reducible refine Stop.mk ?_);(conv=>whnf);with_reducible refine stop ?_)
  all_goals refine Stop.mk ?_
  generalize hV : xs ++ pU f.args ++ pU f.regs ++ pU f.slots ++ putB f.blocks.length = V at *
  have hVl : V.length ≤ 200060 := by rw [← hV]; simp only [List.length_append]; omega
  refine loop_vars follows [] (α := Nat × Gh) (fun x => [(32, .v (.int .i64 x.1))]) (fun x => [.cells 95 [.s 1], .row 5 1 (V ++ wMBs (f.blocks.take x.1)).length (byts (V ++ wMBs (f.blocks.take x.1))), .cells 28 [.v (.int .i64 f.args), .v (.int .i64 f.regs), .v (.int .i64 f.slots), .v (.slice A f.blocks.length c)]]) (fun x => x.2)
    (fun x => x.1 ≤ f.blocks.length ∧ kMBlk.S x.2 A c f.blocks) (fun x => f.blocks.length - x.1) (0, G')
    ⟨Nat.zero_le _, hl⟩ (by simp [wMBs]) rfl ?_ ?_
  ·
    refine ⟨?_⟩
    (conv => whnf)
    (repeat' (first | exact trivial | exact .inl rfl | exact .inr rfl | refine And.intro ?_ ?_))
  clear hl
  rintro ⟨k, Gk⟩ ⟨hk, hl⟩
  dsimp only at hk hl ⊢
  have hw2 : IntKind.i64.wrap ((k : Int) + 1) = ((k + 1 : Nat) : Int) := by rw [i64_in (by omega) (by omega)]; simp
  have hstep := flat_take encMB f.blocks k
  have hmono := flat_mono encMB f.blocks (k + 1)
  have hmono0 := flat_mono encMB f.blocks k
  have hlen : (V ++ wMBs (f.blocks.take k)).length ≤ 700060 := by unfold wMBs at hsz ⊢; rw [List.length_append]; omega
  repeat' ((fail_if_success with_reducible refine Stop.mk ?_);(conv=>whnf);with_reducible first|refine br_d (fun h=>?_) fun h=>?_|refine stop ?_)
  all_goals refine Stop.mk ?_
  ·
    obtain ⟨_, hs_, hat_⟩ := hl.at (sz := 5) rfl
    refine ⟨⟨by omega, by omega⟩, _, hs_, fun ad had hadr => ?_⟩
    obtain ⟨b, cells, hb, hRb, hGb⟩ := hat_ k (by omega) ad (by first | exact had | (rw [Int.toNat_natCast] at had; exact had))
    clear had hat_ hs_
    obtain ⟨A', c', rfl, hS, hbt⟩ := hRb
    replace hstep := hstep b hb
    repeat' ((fail_if_success with_reducible refine Stop.mk ?_);(conv=>whnf);with_reducible refine stop ?_)
    all_goals refine Stop.mk ?_
    refine ⟨_, rfl, hGb, ?_⟩
    repeat' ((fail_if_success with_reducible refine Stop.mk ?_);(conv=>whnf);with_reducible refine stop ?_)
    all_goals refine Stop.mk ?_
    have hcap2 := hS.cap
    have hbe : (putB b.code.length).length + (encMCode b.code).length + (putTrmB b.term).length ≤ (encMB b).length := by unfold encMB; simp only [List.length_append]; omega
    have hfull : (wMBs (f.blocks.take k)).length + (encMB b).length ≤ 500000 := by
      have := hmono
      rw [hstep, List.length_append] at this
      unfold wMBs at hsz ⊢; omega
    have hcl : b.code.length ≤ 1000000 := by
      have h9 : ∀ l : List Mac, l.length ≤ (encMCode l).length := fun l => by
        have := encL_len (enc := fun (_ : Int) => putMacB) (nx := nxR) 1 (fun _ x => (putMacB_len x).1) 0 l
        unfold encMCode; omega
      have := h9 b.code
      omega
    rw [u64_in (n := (b.code.length : Int)) (by omega) (by omega)]
    refine call_fn [0, 1] (wuint_fn _ b.code.length _ (by omega) (by omega)) rfl ⟨rfl, rfl, trivial⟩ (by decide) ?_
    rintro sv H' G' ⟨rfl, rfl⟩ hg
    refine ⟨Nat.le_of_ble_eq_true rfl, ?_⟩
    replace hl := hl.to hg
    replace hS := hS.to hg
    clear hg
    repeat' ((fail_if_success with_reducible refine Stop.mk ?_);(conv=>whnf);with_reducible refine stop ?_)
    all_goals refine Stop.mk ?_
    generalize hW : V ++ wMBs (f.blocks.take k) ++ putB b.code.length = W at *
    have hWl : W.length + (encMCode b.code).length + (putTrmB b.term).length ≤ 740100 := by rw [← hW]; simp only [List.length_append]; omega
    have hcode : encMCode b.code = (b.code.map putMacB).flatten := encMCode_eq b.code
    refine loop_opq fun K0 hK0 => ?_
    refine loop_vars follows [] (α := Nat × Gh) (fun x => [(45, .v (.int .i64 x.1))]) (fun x => [.cells 95 [.s 1], .row 5 1 (W ++ ((b.code.take x.1).map putMacB).flatten).length (byts (W ++ ((b.code.take x.1).map putMacB).flatten)), .cells 28 [.v (.int .i64 f.args), .v (.int .i64 f.regs), .v (.int .i64 f.slots), .v (.slice A f.blocks.length c)], .cells 63 [.v (.slice A' b.code.length c'), .v (.int .i64 b.term.kind), .v (.int .i64 b.term.a), .v (.int .i64 b.term.to_), .v (.int .i64 b.term.els)]]) (fun x => x.2)
      (fun x => x.1 ≤ b.code.length ∧ kMBlk.S x.2 A c f.blocks ∧ kMac.S x.2 A' c' b.code) (fun x => b.code.length - x.1) (0, G')
      ⟨Nat.zero_le _, hl, hS⟩ (by simp) rfl ?_ ?_
    ·
      refine ⟨?_⟩
      (conv => whnf)
      (repeat' (first | exact trivial | exact .inl rfl | exact .inr rfl | refine And.intro ?_ ?_))
    clear hl hS
    rintro ⟨j, Gj⟩ ⟨hj, hl, hS⟩
    dsimp only at hj hl hS ⊢
    have hw3 : IntKind.i64.wrap ((j : Int) + 1) = ((j + 1 : Nat) : Int) := by rw [i64_in (by omega) (by omega)]; simp
    have hstep2 := flat_take putMacB b.code j
    have hmono2 := flat_mono putMacB b.code j
    rw [← hcode] at hmono2
    generalize hU : W ++ ((b.code.take j).map putMacB).flatten = U at *
    have hUl : U.length ≤ 740100 := by rw [← hU, List.length_append]; omega
    repeat' ((fail_if_success with_reducible refine Stop.mk ?_);(conv=>whnf);with_reducible first|refine br_d (fun h=>?_) fun h=>?_|refine stop ?_)
    all_goals refine Stop.mk ?_
    ·
      obtain ⟨_, hs_, hat_⟩ := hS.at (sz := 7) rfl
      refine ⟨⟨by omega, by omega⟩, _, hs_, fun ad had hadr => ?_⟩
      obtain ⟨i, cells, hi, hRi, hGi⟩ := hat_ j (by omega) ad (by first | exact had | (rw [Int.toNat_natCast] at had; exact had))
      clear had hat_ hs_
      obtain ⟨rfl, hiok⟩ := hRi
      repeat' ((fail_if_success with_reducible refine Stop.mk ?_);(conv=>whnf);with_reducible refine stop ?_)
      all_goals refine Stop.mk ?_
      refine ⟨_, rfl, hGi, ?_⟩
      repeat' ((fail_if_success with_reducible refine Stop.mk ?_);(conv=>whnf);with_reducible refine stop ?_)
      all_goals refine Stop.mk ?_
      refine call_fn [0, 1] (putMach_fn _ i U hiok (by omega)) rfl ⟨rfl, rfl, trivial⟩ (by decide) ?_
      rintro sv H' G' ⟨rfl, rfl⟩ hg
      refine ⟨Nat.le_of_ble_eq_true rfl, ?_⟩
      replace hl := hl.to hg
      replace hS := hS.to hg
      clear hg
      repeat' ((fail_if_success with_reducible refine Stop.mk ?_);(conv=>whnf);with_reducible refine stop ?_)
      all_goals refine Stop.mk ?_
      rw [hw3]
      refine tell_gc hE [0, 1, 2, 3] rfl rfl ?_
      (conv => whnf)
      refine tell_here ⟨(j + 1, _), ⟨by show j + 1 ≤ _; omega, hl, hS⟩, by show b.code.length - (j + 1) < b.code.length - j; omega, ?_, rfl, ?_⟩
      · dsimp only
        rw [hstep2 i hi, ← hU, List.append_assoc]
      ·
        refine ⟨?_⟩
        (conv => whnf)
        (repeat' (first | exact trivial | exact .inl rfl | exact .inr rfl | refine And.intro ?_ ?_))
    · have hjl : j = b.code.length := by omega
      subst hjl
      refine Stop.mk (hK0 _ _ ?_)
      clear hK0
      repeat' ((fail_if_success with_reducible refine Stop.mk ?_);(conv=>whnf);with_reducible refine stop ?_)
      all_goals refine Stop.mk ?_
      refine call_fn [0, 1] (putTerm_fn _ b.term U (htr b (List.mem_of_getElem? hb)) (by omega)) rfl ⟨rfl, rfl, trivial⟩ (by decide) ?_
      rintro sv H' G' ⟨rfl, rfl⟩ hg
      refine ⟨Nat.le_of_ble_eq_true rfl, ?_⟩
      replace hl := hl.to hg
      clear hg
      repeat' ((fail_if_success with_reducible refine Stop.mk ?_);(conv=>whnf);with_reducible refine stop ?_)
      all_goals refine Stop.mk ?_
      rw [hw2]
      refine tell_gc hE [0, 1, 2] rfl rfl ?_
      (conv => whnf)
      refine tell_here ⟨(k + 1, _), ⟨by show k + 1 ≤ _; omega, hl⟩, by show f.blocks.length - (k + 1) < f.blocks.length - k; omega, ?_, rfl, ?_⟩
      · dsimp only
        have e : V ++ wMBs (f.blocks.take (k + 1)) = U ++ putTrmB b.term := by
          rw [← hU, ← hW, List.take_length, ← hcode]
          unfold wMBs encMB at *
          rw [hstep]
          simp only [List.append_assoc]
        rw [e]
      ·
        refine ⟨?_⟩
        (conv => whnf)
        (repeat' (first | exact trivial | exact .inl rfl | exact .inr rfl | refine And.intro ?_ ?_))
  · have hkl : k = f.blocks.length := by omega
    subst hkl
    rw [List.take_length]
    refine fin_id hE 2 rfl rfl rfl rfl ⟨rfl, ?_⟩
    rw [← hV]
    unfold wMFn
    simp only [List.append_assoc]
    rfl
end Go.Proofs.YtchebkpcgglllaaGreat.Cu
