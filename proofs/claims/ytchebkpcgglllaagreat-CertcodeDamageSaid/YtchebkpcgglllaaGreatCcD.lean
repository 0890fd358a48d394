/- Certificates: the law of damage. -/
import Derived.Test.YtchebkpcgglllaaGreatCc9
import Derived.Test.YtchebkpcgglllaaGreatSe7
import Derived.Test.YtchebkpcgglllaaGreatSXc
namespace Go.Proofs.YtchebkpcgglllaaGreat.Cu
open Go Go.SX Go.Proofs.YtchebkpcgglllaaGreat.VT
set_option maxRecDepth 100000
set_option linter.unusedVariables false
set_option linter.unusedSimpArgs false
theorem fit_secs {x : Crt} (hF : FitC x) : ∀ c ∈ [wFn x.s, wMFn x.t, encI x.w], okC c := fun d hd => by
  obtain ⟨b1, b2, b3, l1, l2, l3, _, _⟩ := hF
  simp only [List.mem_cons, List.not_mem_nil, or_false] at hd
  rcases hd with rfl | rfl | rfl
  · exact ⟨b1, by omega⟩
  · exact ⟨b2, by omega⟩
  · exact ⟨b3, by omega⟩
theorem cErr_cut {x : Crt} (hF : FitC x) {k : Nat} (hk : k < (encCrt x).length) : cErr ((encCrt x).take k) = 1 := by
  have hl := hF.l
  match k, hk with
  | 0, _ => rfl
  | 1, _ => rfl
  | 2, _ => rfl
  | k + 3, hk =>
    have e : (encCrt x).take (k + 3) = 82 :: 67 :: 1 :: (packB [1, 2, 3] [wFn x.s, wMFn x.t, encI x.w]).take k := rfl
    have hlen : (encCrt x).length = 3 + (packB [1, 2, 3] [wFn x.s, wMFn x.t, encI x.w]).length := by unfold encCrt; rw [List.length_append]; rfl
    have h1 := splitR_cut (ids := [1, 2, 3]) (cs := [wFn x.s, wMFn x.t, encI x.w]) (k := k) rfl (by decide) (fit_secs hF) (by omega) (by omega)
    rw [e]
    generalize (packB [1, 2, 3] [wFn x.s, wMFn x.t, encI x.w]).take k = y at *
    unfold cErr
    have e0 : eStart (82 :: 67 :: 1 :: y) = 0 := by
      unfold eStart
      rw [if_neg (by simp only [List.length_cons]; omega), if_neg (by simp), if_neg (by simp only [List.length_cons]; omega), if_neg (by simp)]
    have e1 : (splitR [1, 2, 3] ((82 :: 67 :: 1 :: y).drop 3)).2 = 1 := h1
    rw [e0, e1]
    rfl
theorem cErr_more {x : Crt} (hF : FitC x) {m : Int} (hm : 0 ≤ m ∧ m ≤ 255) : cErr (encCrt x ++ [m]) = 2 := by
  have hl := hF.l
  have e : encCrt x ++ [m] = 82 :: 67 :: 1 :: (packB [1, 2, 3] [wFn x.s, wMFn x.t, encI x.w] ++ [m]) := rfl
  have hlen : (encCrt x).length = 3 + (packB [1, 2, 3] [wFn x.s, wMFn x.t, encI x.w]).length := by unfold encCrt; rw [List.length_append]; rfl
  have h1 := splitR_more (ids := [1, 2, 3]) (cs := [wFn x.s, wMFn x.t, encI x.w]) (rest := [m]) rfl (by decide) (fit_secs hF) (by intro z hz; simp at hz; subst hz; exact hm) (by simp) (by simp only [List.length_cons, List.length_nil]; omega)
  rw [e]
  generalize packB [1, 2, 3] [wFn x.s, wMFn x.t, encI x.w] ++ [m] = y at *
  unfold cErr
  have e0 : eStart (82 :: 67 :: 1 :: y) = 0 := by
    unfold eStart
    rw [if_neg (by simp only [List.length_cons]; omega), if_neg (by simp), if_neg (by simp only [List.length_cons]; omega), if_neg (by simp)]
  have e1 : (splitR [1, 2, 3] ((82 :: 67 :: 1 :: y).drop 3)).2 = 2 := h1
  rw [e0, e1]
  rfl
/-- A byte is changed: what is decoded is the same if and only if the byte is. -/
theorem dec_set {x : Crt} (hok : okCrt x) (hF : FitC x) {k : Nat} (hk : k < (encCrt x).length) {v : Int} (hv : 0 ≤ v ∧ v ≤ 255) (h0 : cErr ((encCrt x).set k v) = 0) :
    sameC (dCrt ((encCrt x).set k v)) x ↔ v = (encCrt x).getD k 0 := by
  have hl := hF.l
  have hb : isB ((encCrt x).set k v) := fun z hz => by
    rcases List.mem_or_eq_of_mem_set hz with hz | rfl
    · exact hF.b z hz
    · exact hv
  have h1 := (dec_ok hb (by rw [List.length_set]; omega) h0).2
  have h2 := (enc_ok hok hF).2
  rw [sameC_iff]
  constructor
  · intro e
    rw [e] at h1
    have : ((encCrt x).set k v).getD k 0 = v := by simp [List.getD_eq_getElem?_getD, hk]
    rw [← h1] at this
    exact this.symm
  · intro e
    have : (encCrt x).set k v = encCrt x := by
      rw [e, List.getD_eq_getElem?_getD, List.getElem?_eq_getElem hk]
      simp
    rw [this, h2]
theorem rencode_fz {G : Gh} {A B C : Option Addr} {a b c : Nat} {x : Crt} (hG : CrtG G A B C a b c x) (hS : Sml x) :
    Ct Tryz.prog 13 [crtS A B C a b c x] [] G fun sv H' G' => ((okCrt x ∧ ∃ A c, sv = .tup [.v (.slice A (encCrt x).length c), .v (.int .i64 0)] ∧ SlB G' A c (encCrt x)) ∨ (¬ okCrt x ∧ ∃ e : Int, e ≠ 0 ∧ sv = .tup [.v (.slice none 0 0), .v (.int .i64 e)])) ∧ H' = [] :=
  (rencode_fn hG hS).fin fun E sv H' G' hE hp => by
    rcases hp with ⟨hok, rfl, rfl⟩ | ⟨hno, e, he, rfl, rfl⟩
    · exact fin_done 0 rfl (byts_one _) fun A c G2 hg hs => fin_id hE 0 rfl rfl rfl rfl ⟨.inl ⟨hok, A, c, rfl, hs⟩, rfl⟩
    · exact fin_id hE 0 rfl rfl rfl rfl ⟨.inr ⟨hno, e, he, rfl⟩, rfl⟩
theorem frzE {P : Program} {f : FuncId} {args : List SV} {G : Gh} {l : List Int} (h : Ct P f args [] G fun sv H' G' => sv = .s 0 ∧ H' = [rowB l] ∧ G' = G) :
    Ct P f args [] G fun sv H' G' => (∃ A c, sv = .v (.slice A l.length c) ∧ SlB G' A c l) ∧ H' = [] :=
  h.fin fun E sv H' G' hE hp => by
    obtain ⟨rfl, rfl, _⟩ := hp
    exact fin_done 0 rfl (byts_one _) fun A c G2 hg hs => fin_id hE 0 rfl rfl rfl rfl ⟨⟨A, c, rfl, hs⟩, rfl⟩
set_option maxHeartbeats 16000000 in
theorem cdam_fn {G : Gh} {A B C : Option Addr} {a b c : Nat} (x : Crt) (cut more at_ v : Int) (hG : CrtG G A B C a b c x) (hcut : 0 ≤ cut ∧ cut ≤ 65535) (hmore : 0 ≤ more ∧ more ≤ 255) (hat : 0 ≤ at_ ∧ at_ ≤ 65535) (hv : 0 ≤ v ∧ v ≤ 255) :
    Ct Tryz.prog 6 [crtS A B C a b c x, .v (.int .u16 cut), .v (.int .u8 more), .v (.int .u16 at_), .v (.int .u8 v)] [] G fun sv H' G' => sv = .v (.bool true) ∧ H' = [] := by
  refine fn_of follows [(12, (.cons 0 [] (.cons 1 [] (.cons 2 [] (.cons 3 [] (.cons 4 [] (.cons 5 [] (.cons 6 [] (.cons 7 [] (.cons 8 [] (.cons 9 [] (.cons 10 [] (.cons 11 [] (.cons 13 [] (.cons 14 [] (.cons 15 [] (.cons 16 [] (.cons 17 [] (.cons 18 [] (.cons 12 [10, 11] (.cons 19 [] (.cons 20 [] (.cons 21 [] (.cons 22 [] .nil))))))))))))))))))))))))] Tryz.func6 rfl rfl fun E hE => ?_
  unfold crtS
  repeat' ((fail_if_success with_reducible refine Stop.mk ?_);(conv=>whnf);with_reducible first|refine br_t ?_|refine br_f ?_|refine br_nn ?_|refine br_ns ?_|refine br_not ?_|refine br_d (fun h=>?_) fun h=>?_|refine br_e (fun h=>?_) fun h=>?_|refine br_n (fun h=>?_) fun h=>?_|refine drw_fast (by kernel_rfl) ?_|refine chk (by kernel_rfl) ?_|refine stop ?_)
  all_goals refine Stop.mk ?_
  refine call_fn [] (awake20_fn _) rfl trivial (by decide) ?_
  rintro sv H' G' ⟨rfl, rfl⟩ hg
  refine ⟨Nat.le_of_ble_eq_true rfl, ?_⟩
  replace hG := hG.to hg
  clear hg
  repeat' ((fail_if_success with_reducible refine Stop.mk ?_);(conv=>whnf);with_reducible first|refine br_t ?_|refine br_f ?_|refine br_nn ?_|refine br_ns ?_|refine br_not ?_|refine br_d (fun h=>?_) fun h=>?_|refine br_e (fun h=>?_) fun h=>?_|refine br_n (fun h=>?_) fun h=>?_|refine drw_fast (by kernel_rfl) ?_|refine chk (by kernel_rfl) ?_|refine stop ?_)
  all_goals refine Stop.mk ?_
  refine call_fn [] (few16_fn hG) rfl trivial (by decide) ?_
  rintro sv H' G' ⟨⟨r, rfl, hfew⟩, rfl, rfl⟩ -
  refine ⟨Nat.le_of_ble_eq_true rfl, ?_⟩
  cases r
  ·
    repeat' ((fail_if_success with_reducible refine Stop.mk ?_);(conv=>whnf);with_reducible first|refine br_t ?_|refine br_f ?_|refine br_nn ?_|refine br_ns ?_|refine br_not ?_|refine br_d (fun h=>?_) fun h=>?_|refine br_e (fun h=>?_) fun h=>?_|refine br_n (fun h=>?_) fun h=>?_|refine drw_fast (by kernel_rfl) ?_|refine chk (by kernel_rfl) ?_|refine stop ?_)
    all_goals refine Stop.mk ?_
    refine call_fn [] (awake20_fn _) rfl trivial (by decide) ?_
    rintro sv H' G' ⟨rfl, rfl⟩ -
    refine ⟨Nat.le_of_ble_eq_true rfl, ?_⟩
    repeat' ((fail_if_success with_reducible refine Stop.mk ?_);(conv=>whnf);with_reducible first|refine br_t ?_|refine br_f ?_|refine br_nn ?_|refine br_ns ?_|refine br_not ?_|refine br_d (fun h=>?_) fun h=>?_|refine br_e (fun h=>?_) fun h=>?_|refine br_n (fun h=>?_) fun h=>?_|refine drw_fast (by kernel_rfl) ?_|refine chk (by kernel_rfl) ?_|refine stop ?_)
    all_goals refine Stop.mk ?_
    exact fin_id hE 0 rfl rfl rfl rfl ⟨rfl, rfl⟩
  have hS := hfew rfl
  clear hfew
  repeat' ((fail_if_success with_reducible refine Stop.mk ?_);(conv=>whnf);with_reducible first|refine br_t ?_|refine br_f ?_|refine br_nn ?_|refine br_ns ?_|refine br_not ?_|refine br_d (fun h=>?_) fun h=>?_|refine br_e (fun h=>?_) fun h=>?_|refine br_n (fun h=>?_) fun h=>?_|refine drw_fast (by kernel_rfl) ?_|refine chk (by kernel_rfl) ?_|refine stop ?_)
  all_goals refine Stop.mk ?_
  refine call_fn [] (rencode_fz hG hS) rfl trivial (by decide) ?_
  rintro sv H' G1 ⟨hp, rfl⟩ hg
  replace hG := hG.to hg
  clear hg
  rcases hp with ⟨hok, Ap, cp, rfl, hp⟩ | ⟨hno, e, he, rfl⟩
  case inr =>
    refine ⟨Nat.le_of_ble_eq_true rfl, ?_⟩
    repeat' ((fail_if_success with_reducible refine Stop.mk ?_);(conv=>whnf);first|with_reducible refine br_t ?_|with_reducible refine br_f ?_|with_reducible refine br_nn ?_|with_reducible refine br_ns ?_|with_reducible refine br_not ?_|((with_reducible refine br_d (fun h=>?_) fun h=>?_) <;> try (exfalso; omega))|((with_reducible refine br_e (fun h=>?_) fun h=>?_) <;> try (exfalso; omega))|((with_reducible refine br_n (fun h=>?_) fun h=>?_) <;> try (exfalso; omega))|with_reducible refine drw_fast (by kernel_rfl) ?_|with_reducible refine chk (by kernel_rfl) ?_|with_reducible refine stop ?_)
    all_goals refine Stop.mk ?_
    all_goals exact fin_id hE 0 rfl rfl rfl rfl ⟨rfl, rfl⟩
  have hF := fit_of hok hS
  have hl := hF.l
  have hbb := hF.b
  have hpos : 3 ≤ (encCrt x).length := by unfold encCrt; rw [List.length_append]; simp only [List.length_cons, List.length_nil]; omega
  have hcut2 := @cErr_cut x hF
  have hmore2 := cErr_more hF hmore
  have hset := @dec_set x hok hF
  generalize encCrt x = pk at *
  have hcapp := hp.cap
  have htopp := hp.top
  refine ⟨Nat.le_of_ble_eq_true rfl, ?_⟩
  repeat' ((fail_if_success with_reducible refine Stop.mk ?_);(conv=>whnf);with_reducible first|refine br_t ?_|refine br_f ?_|refine br_nn ?_|refine br_ns ?_|refine br_not ?_|refine br_d (fun h=>?_) fun h=>?_|refine br_e (fun h=>?_) fun h=>?_|refine br_n (fun h=>?_) fun h=>?_|refine drw_fast (by kernel_rfl) ?_|refine chk (by kernel_rfl) ?_|refine stop ?_)
  all_goals refine Stop.mk ?_
  refine ⟨by omega, ?_⟩
  have ek : (IntKind.i64.wrap cut).tmod (pk.length : Int) = ((cut.toNat % pk.length : Nat) : Int) := by
    rw [i64_in (by omega) (by omega), Int.tmod_eq_emod_of_nonneg (by omega)]; push_cast; rw [Int.toNat_of_nonneg (by omega)]
  rw [ek]
  have hk := Nat.mod_lt cut.toNat (show 0 < pk.length by omega)
  generalize cut.toNat % pk.length = k at *
  repeat' ((fail_if_success with_reducible refine Stop.mk ?_);(conv=>whnf);with_reducible first|refine br_t ?_|refine br_f ?_|refine br_nn ?_|refine br_ns ?_|refine br_not ?_|refine br_d (fun h=>?_) fun h=>?_|refine br_e (fun h=>?_) fun h=>?_|refine br_n (fun h=>?_) fun h=>?_|refine drw_fast (by kernel_rfl) ?_|refine chk (by kernel_rfl) ?_|refine stop ?_)
  all_goals refine Stop.mk ?_
  refine ⟨⟨by omega, by omega⟩, fun A' hA' => ?_⟩
  obtain rfl : A' = Ap := by rw [hA']; split; · rfl
                             cases Ap <;> simp [Addr.add]
  simp only [Int.toNat_natCast, Nat.sub_zero]
  have htk : (pk.take k).length = k := by rw [List.length_take]; omega
  have hpk : SlB G1 A' cp (pk.take k) := by unfold SlB; rw [htk]; exact slB_take hp k (by omega)
  repeat' ((fail_if_success with_reducible refine Stop.mk ?_);(conv=>whnf);with_reducible first|refine br_t ?_|refine br_f ?_|refine br_nn ?_|refine br_ns ?_|refine br_not ?_|refine br_d (fun h=>?_) fun h=>?_|refine br_e (fun h=>?_) fun h=>?_|refine br_n (fun h=>?_) fun h=>?_|refine drw_fast (by kernel_rfl) ?_|refine chk (by kernel_rfl) ?_|refine stop ?_)
  all_goals refine Stop.mk ?_
  have hd := cdecode_fn _ A' cp (pk.take k) (isB_take hbb k) hpk (by omega) (part_ok (isB_take hbb k) (by omega))
  rw [htk] at hd
  refine call_fn [] hd rfl trivial (by decide) ?_
  intro sv H' G2 hpp hg
  have hcc := hcut2 hk
  obtain ⟨rfl, rfl⟩ := dec_fail hpp (by rw [hcc]; decide)
  rw [hcc]
  replace hG := hG.to hg
  replace hp := Sl.to hg hp
  clear hg hd hpk hpp
  refine ⟨Nat.le_of_ble_eq_true rfl, ?_⟩
  unfold crt0
  repeat' ((fail_if_success with_reducible refine Stop.mk ?_);(conv=>whnf);with_reducible first|refine br_t ?_|refine br_f ?_|refine br_nn ?_|refine br_ns ?_|refine br_not ?_|refine br_d (fun h=>?_) fun h=>?_|refine br_e (fun h=>?_) fun h=>?_|refine br_n (fun h=>?_) fun h=>?_|refine drw_fast (by kernel_rfl) ?_|refine chk (by kernel_rfl) ?_|refine stop ?_)
  all_goals refine Stop.mk ?_
  refine call_fz 2 rfl (by simp [Value.oneCell']) (enters_of Tryz.func17 rfl rfl) fun Ax cx Gx hgx hsx => ?_
  (conv => whnf)
  replace hG := hG.to hgx
  replace hp := Sl.to hgx hp
  refine call_fn [] (frzE (radd_fn _ A' Ax cp cx pk [more] hp (SlB.of [more] hsx rfl rfl rfl) (by simp; omega))) rfl trivial (by decide) ?_
  rintro sv H' G3 ⟨⟨Ay, cy, rfl, hy⟩, rfl⟩ hg
  replace hG := hG.to hg
  replace hp := Sl.to hg hp
  clear hg
  refine ⟨Nat.le_of_ble_eq_true rfl, ?_⟩
  repeat' ((fail_if_success with_reducible refine Stop.mk ?_);(conv=>whnf);with_reducible first|refine br_t ?_|refine br_f ?_|refine br_nn ?_|refine br_ns ?_|refine br_not ?_|refine br_d (fun h=>?_) fun h=>?_|refine br_e (fun h=>?_) fun h=>?_|refine br_n (fun h=>?_) fun h=>?_|refine drw_fast (by kernel_rfl) ?_|refine chk (by kernel_rfl) ?_|refine stop ?_)
  all_goals refine Stop.mk ?_
  have hmb : isB (pk ++ [more]) := isB_app' hbb (by intro x hx; simp at hx; subst hx; exact hmore)
  have hml : (pk ++ [more]).length ≤ 1000000 := by simp; omega
  refine call_fn [] (cdecode_fn _ Ay cy (pk ++ [more]) hmb hy hml (part_ok hmb hml)) rfl trivial (by decide) ?_
  intro sv H' G4 hpp hg
  obtain ⟨rfl, rfl⟩ := dec_fail hpp (by rw [hmore2]; decide)
  rw [hmore2]
  replace hG := hG.to hg
  replace hp := Sl.to hg hp
  clear hg hy hpp
  refine ⟨Nat.le_of_ble_eq_true rfl, ?_⟩
  unfold crt0
  repeat' ((fail_if_success with_reducible refine Stop.mk ?_);(conv=>whnf);with_reducible first|refine br_t ?_|refine br_f ?_|refine br_nn ?_|refine br_ns ?_|refine br_not ?_|refine br_d (fun h=>?_) fun h=>?_|refine br_e (fun h=>?_) fun h=>?_|refine br_n (fun h=>?_) fun h=>?_|refine drw_fast (by kernel_rfl) ?_|refine chk (by kernel_rfl) ?_|refine stop ?_)
  all_goals refine Stop.mk ?_
  refine ⟨_, hp, ⟨by show (0 + pk.length) * 1 ≤ _; omega, ?_⟩⟩
  simp only [Nat.zero_add, List.nil_append]
  repeat' ((fail_if_success with_reducible refine Stop.mk ?_);(conv=>whnf);with_reducible first|refine br_t ?_|refine br_f ?_|refine br_nn ?_|refine br_ns ?_|refine br_not ?_|refine br_d (fun h=>?_) fun h=>?_|refine br_e (fun h=>?_) fun h=>?_|refine br_n (fun h=>?_) fun h=>?_|refine drw_fast (by kernel_rfl) ?_|refine chk (by kernel_rfl) ?_|refine stop ?_)
  all_goals refine Stop.mk ?_
  refine ⟨by omega, ?_⟩
  have ei : (IntKind.i64.wrap at_).tmod (pk.length : Int) = ((at_.toNat % pk.length : Nat) : Int) := by
    rw [i64_in (by omega) (by omega), Int.tmod_eq_emod_of_nonneg (by omega)]; push_cast; rw [Int.toNat_of_nonneg (by omega)]
  rw [ei]
  have hi := Nat.mod_lt at_.toNat (show 0 < pk.length by omega)
  generalize at_.toNat % pk.length = j at *
  repeat' ((fail_if_success with_reducible refine Stop.mk ?_);(conv=>whnf);with_reducible first|refine br_t ?_|refine br_f ?_|refine br_nn ?_|refine br_ns ?_|refine br_not ?_|refine br_d (fun h=>?_) fun h=>?_|refine br_e (fun h=>?_) fun h=>?_|refine br_n (fun h=>?_) fun h=>?_|refine drw_fast (by kernel_rfl) ?_|refine chk (by kernel_rfl) ?_|refine stop ?_)
  all_goals refine Stop.mk ?_
  refine ⟨⟨by omega, by omega⟩, ?_⟩
  simp only [Int.toNat_natCast, Nat.mul_one, Nat.zero_add]
  repeat' ((fail_if_success with_reducible refine Stop.mk ?_);(conv=>whnf);with_reducible first|refine br_t ?_|refine br_f ?_|refine br_nn ?_|refine br_ns ?_|refine br_not ?_|refine br_d (fun h=>?_) fun h=>?_|refine br_e (fun h=>?_) fun h=>?_|refine br_n (fun h=>?_) fun h=>?_|refine drw_fast (by kernel_rfl) ?_|refine chk (by kernel_rfl) ?_|refine stop ?_)
  all_goals refine Stop.mk ?_
  refine ⟨by rw [byts_length]; omega, ?_⟩
  rw [byts_set]
  repeat' ((fail_if_success with_reducible refine Stop.mk ?_);(conv=>whnf);with_reducible first|refine br_t ?_|refine br_f ?_|refine br_nn ?_|refine br_ns ?_|refine br_not ?_|refine br_d (fun h=>?_) fun h=>?_|refine br_e (fun h=>?_) fun h=>?_|refine br_n (fun h=>?_) fun h=>?_|refine drw_fast (by kernel_rfl) ?_|refine chk (by kernel_rfl) ?_|refine stop ?_)
  all_goals refine Stop.mk ?_
  have hs7 := hset hi hv
  have hbo : isB (pk.set j v) := fun z hz => by
    rcases List.mem_or_eq_of_mem_set hz with hz | rfl
    · exact hbb z hz
    · exact hv
  have hol : (pk.set j v).length = pk.length := by simp
  generalize pk.set j v = oth at *
  refine call_fz 4 rfl (byts_one _) (enters_of Tryz.func10 rfl rfl) fun Az cz Gz hgz hsz => ?_
  (conv => whnf)
  replace hG := hG.to hgz
  replace hp := Sl.to hgz hp
  have hd := cdecode_fn _ Az cz oth hbo (SlB.of oth hsz hol.symm rfl rfl) (by omega) (part_ok hbo (by omega))
  rw [hol] at hd
  refine call_fn [] hd rfl trivial (by decide) ?_
  intro sv H' G5 hpp hg
  replace hG := hG.to hg
  replace hp := Sl.to hg hp
  clear hg hd
  by_cases h0 : cErr oth = 0
  case neg =>
    obtain ⟨rfl, rfl⟩ := dec_fail hpp h0
    generalize cErr oth = e at *
    clear hpp
    refine ⟨Nat.le_of_ble_eq_true rfl, ?_⟩
    unfold crt0
    repeat' ((fail_if_success with_reducible refine Stop.mk ?_);(conv=>whnf);first|with_reducible refine br_t ?_|with_reducible refine br_f ?_|with_reducible refine br_nn ?_|with_reducible refine br_ns ?_|with_reducible refine br_not ?_|((with_reducible refine br_d (fun h=>?_) fun h=>?_) <;> try (exfalso; omega))|((with_reducible refine br_e (fun h=>?_) fun h=>?_) <;> try (exfalso; omega))|((with_reducible refine br_n (fun h=>?_) fun h=>?_) <;> try (exfalso; omega))|with_reducible refine drw_fast (by kernel_rfl) ?_|with_reducible refine chk (by kernel_rfl) ?_|with_reducible refine stop ?_)
    all_goals refine Stop.mk ?_
    all_goals try (exfalso; first | exact h rfl | exact h (by decide) | omega)
    all_goals exact fin_id hE 0 rfl rfl rfl rfl ⟨rfl, rfl⟩
  obtain ⟨A1, B1, C1, a1, b1, c1, rfl, rfl, hG1⟩ := dec_post hpp h0
  clear hpp
  refine ⟨Nat.le_of_ble_eq_true rfl, ?_⟩
  unfold crtS
  repeat' ((fail_if_success with_reducible refine Stop.mk ?_);(conv=>whnf);with_reducible first|refine br_t ?_|refine br_f ?_|refine br_nn ?_|refine br_ns ?_|refine br_not ?_|refine br_d (fun h=>?_) fun h=>?_|refine br_e (fun h=>?_) fun h=>?_|refine br_n (fun h=>?_) fun h=>?_|refine drw_fast (by kernel_rfl) ?_|refine chk (by kernel_rfl) ?_|refine stop ?_)
  all_goals refine Stop.mk ?_
  all_goals try (exfalso; first | exact h rfl | exact h (by decide) | omega)
  refine ⟨⟨by omega, by omega⟩, _, hp, fun ad had hadr => ?_⟩
  repeat' ((fail_if_success with_reducible refine Stop.mk ?_);(conv=>whnf);with_reducible first|refine br_t ?_|refine br_f ?_|refine br_nn ?_|refine br_ns ?_|refine br_not ?_|refine br_d (fun h=>?_) fun h=>?_|refine br_e (fun h=>?_) fun h=>?_|refine br_n (fun h=>?_) fun h=>?_|refine drw_fast (by kernel_rfl) ?_|refine chk (by kernel_rfl) ?_|refine stop ?_)
  all_goals refine Stop.mk ?_
  refine ⟨_, el1 had (by omega), ?_⟩
  rw [Int.toNat_natCast]
  repeat' ((fail_if_success with_reducible refine Stop.mk ?_);(conv=>whnf);with_reducible first|refine br_t ?_|refine br_f ?_|refine br_nn ?_|refine br_ns ?_|refine br_not ?_|refine br_d (fun h=>?_) fun h=>?_|refine br_e (fun h=>?_) fun h=>?_|refine br_n (fun h=>?_) fun h=>?_|refine drw_fast (by kernel_rfl) ?_|refine chk (by kernel_rfl) ?_|refine stop ?_)
  all_goals refine Stop.mk ?_
  refine call_fn [] (same16_fn hG1 hG) rfl trivial (by decide) ?_
  rintro sv H' G6 ⟨rfl, rfl⟩ -
  have hdc : decide (sameC (dCrt oth) x) = decide (v = pk.getD j 0) := decide_eq_decide.2 (hs7 h0)
  rw [hdc]
  refine ⟨Nat.le_of_ble_eq_true rfl, ?_⟩
  repeat' ((fail_if_success with_reducible refine Stop.mk ?_);(conv=>whnf);with_reducible first|refine br_t ?_|refine br_f ?_|refine br_nn ?_|refine br_ns ?_|refine br_not ?_|refine br_d (fun h=>?_) fun h=>?_|refine br_e (fun h=>?_) fun h=>?_|refine br_n (fun h=>?_) fun h=>?_|refine drw_fast (by kernel_rfl) ?_|refine chk (by kernel_rfl) ?_|refine stop ?_)
  all_goals refine Stop.mk ?_
  have hb : (decide (v = pk.getD j 0) == (v == pk.getD j 0)) = true := beq_iff_eq.2 (Bool.eq_iff_iff.2 (by simp))
  exact fin_id hE 0 rfl rfl rfl rfl ⟨congrArg (fun q => SV.v (.bool q)) hb, rfl⟩
end Go.Proofs.YtchebkpcgglllaaGreat.Cu
