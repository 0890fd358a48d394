/- Edges: the law EdgeValid. -/
import Derived.Test.YtglelcgllodhoaaEd5
import Derived.Test.YtglelcgllodhoaaSXP
namespace Go.Proofs.Ytglelcgllodhoaa.Cu
open Go Go.SX Go.Proofs.Ytglelcgllodhoaa.VT
set_option maxRecDepth 100000
set_option linter.unusedVariables false
set_option linter.unusedSimpArgs false
theorem tot_mulE (m : Nat) : ∀ (l : List (List Pr)), (∀ x ∈ l, x.length ≤ m) → tot l ≤ m * l.length
  | [], _ => by simp [tot]
  | x :: l, h => by
    have h1 := tot_mulE m l (fun y hy => h y (by simp [hy]))
    have h2 := h x (by simp)
    simp only [tot, List.length_cons, Nat.mul_add, Nat.mul_one]
    omega
theorem ePr_snoc {vr rg sl : Int} {ps : List Pr} {x : Pr} {j : Nat} (hj : j < ps.length) : ePr vr rg sl (ps ++ [x]) j = ePr vr rg sl ps j := by
  unfold ePr
  rw [List.getElem?_append_left hj]
  cases hp : ps[j]? with
  | none => rfl
  | some y =>
    have : (ps ++ [x]).getD (j - 1) pr0 = ps.getD (j - 1) pr0 := by rw [List.getD_eq_getElem?_getD, List.getElem?_append_left (by omega), ← List.getD_eq_getElem?_getD]
    dsimp only
    rw [this]
theorem ePrs_snoc {vr rg sl : Int} {ps : List Pr} {x : Pr} (h : ePrs vr rg sl ps = 0) : ePrs vr rg sl (ps ++ [x]) = ePr vr rg sl (ps ++ [x]) ps.length := by
  have h0 : ∀ j, j < ps.length → ePr vr rg sl (ps ++ [x]) j = 0 := fun j hj => by
    rw [ePr_snoc hj]; exact (firstN_iff _ _).1 h j hj
  by_cases h1 : ePr vr rg sl (ps ++ [x]) ps.length = 0
  · rw [h1]
    refine ePrs_zero fun j hj => ?_
    rw [List.length_append] at hj
    simp at hj
    rcases Nat.lt_or_ge j ps.length with h2 | h2
    · exact h0 j h2
    · have : j = ps.length := by omega
      rw [this]; exact h1
  · exact ePrs_at (by simp) h0 h1
theorem eInv_set {n vr rg sl : Int} {l : List (List Pr)} {k : Nat} {ps : List Pr} {x : Pr} (h : eInv n vr rg sl l = 0) (hn : (l.length : Int) = n) (h40 : l.length ≤ 40) (h400 : ∀ y ∈ l, y.length ≤ 400) (hk : l[k]? = some ps) :
    eInv n vr rg sl (l.set k (ps ++ [x])) = ePr vr rg sl (ps ++ [x]) ps.length := by
  have hkl : k < l.length := (List.getElem?_eq_some_iff.1 hk).1
  have hb : IBase n l := ⟨hn, by have := tot_mulE 400 l h400; omega⟩
  have h9 : ∀ y ∈ l.set k (ps ++ [x]), y.length ≤ 401 := fun y hy => by
    rcases List.mem_or_eq_of_mem_set hy with hy | rfl
    · have := h400 y hy; omega
    · have := h400 ps (List.mem_of_getElem? hk); simp; omega
  have hb' : IBase n (l.set k (ps ++ [x])) := ⟨by rw [List.length_set]; exact hn, by have := tot_mulE 401 _ h9; rw [List.length_set] at this; omega⟩
  rw [eInv_base hb] at h
  have h0 : ∀ j, j < l.length → eAt (ePrs vr rg sl) l j = 0 := (firstN_iff _ _).1 h
  have hps : ePrs vr rg sl ps = 0 := by have := h0 k hkl; rwa [eAt_is hk] at this
  have hset : ∀ j, j ≠ k → j < l.length → eAt (ePrs vr rg sl) (l.set k (ps ++ [x])) j = 0 := fun j hj hjl => by
    have := h0 j hjl
    unfold eAt at this ⊢
    rw [List.getElem?_set_ne (fun e => hj e.symm)]
    exact this
  have hkk : (l.set k (ps ++ [x]))[k]? = some (ps ++ [x]) := List.getElem?_set_self hkl
  have hsn := ePrs_snoc (x := x) hps
  by_cases h1 : ePr vr rg sl (ps ++ [x]) ps.length = 0
  · rw [h1]
    refine eInv_zero hb' fun j hj => ?_
    rw [List.length_set] at hj
    by_cases hjk : j = k
    · subst hjk; rw [eAt_is hkk, hsn]; exact h1
    · exact hset j hjk hj
  · rw [eInv_at hb' hkk (fun j hj => hset j (by omega) (by omega)) (by rw [hsn]; exact h1), hsn]
theorem flat_set1 : ∀ (css : List (List Value)) (k : Nat) (v : Value), (∀ r ∈ css, r.length = 1) → css.flatten.set k v = (css.set k [v]).flatten
  | [], k, v, _ => by simp
  | r :: css, k, v, h => by
    have hr := h r (by simp)
    match r, hr with
    | [y], _ =>
      cases k with
      | zero => rfl
      | succ k =>
        have := flat_set1 css k v (fun q hq => h q (by simp [hq]))
        simp only [List.flatten_cons, List.singleton_append, List.set_cons_succ]
        rw [this]
theorem all2_set {α β : Type} {R : α → β → Prop} {x : α} {y : β} (hxy : R x y) : ∀ {xs : List α} {ys : List β} (k : Nat), All2 R xs ys → All2 R (xs.set k x) (ys.set k y)
  | [], [], k, _ => by simp [All2]
  | a :: xs, b :: ys, 0, h => by simp only [List.set_cons_zero]; exact ⟨hxy, h.2⟩
  | a :: xs, b :: ys, k + 1, h => by simp only [List.set_cons_succ]; exact ⟨h.1, all2_set hxy k h.2⟩
  | [], _ :: _, _, h => h.elim
  | _ :: _, [], _, h => h.elim
set_option maxHeartbeats 16000000 in
theorem evalid_fn {G : Gh} {A : Option Addr} {c : Nat} {l : List (List Pr)} {x : Pr} {vr rg sl at_ : Int} (hl : kPrs.S G A c l) (hx : in64 x.v ∧ in64 x.l) (hv : 0 ≤ vr ∧ vr ≤ 255) (hr : 0 ≤ rg ∧ rg ≤ 255) (hs : 0 ≤ sl ∧ sl ≤ 255) (ha : 0 ≤ at_ ∧ at_ ≤ 255) :
    Ct Try.prog 3 [.v (.slice A l.length c), .v (.int .u8 vr), .v (.int .u8 rg), .v (.int .u8 sl), .v (.int .u8 at_), x.sv] [] G fun sv H' G' => sv = .v (.bool true) ∧ H' = [] := by
  refine fn_of follows [(8, (.cons 0 [] (.cons 1 [] (.cons 3 [] (.cons 4 [] (.cons 5 [] (.cons 6 [] (.cons 8 [] (.alt (.cons 2 [] (.alt (.cons 7 [] (.cons 9 [] (.cons 10 [] (.cons 11 [] (.cons 12 [] .nil))))) (.cons 9 [] (.cons 7 [] (.cons 10 [] (.cons 11 [] (.cons 12 [] .nil))))))) (.cons 9 [] (.cons 2 [] (.cons 7 [] (.cons 10 [] (.cons 11 [] (.cons 12 [] .nil))))))))))))))), (14, (.cons 0 [] (.cons 1 [] (.cons 2 [] (.cons 3 [] (.cons 4 [] (.cons 5 [] (.cons 6 [] (.cons 7 [] (.cons 8 [] (.cons 9 [] (.cons 10 [] (.cons 11 [] (.cons 12 [] (.cons 13 [] (.cons 14 [] (.cons 15 [] (.cons 16 [] (.cons 17 [] (.cons 18 [] (.cons 19 [] (.cons 20 [3, 10, 14, 18, 19] (.cons 21 [] (.cons 22 [] .nil))))))))))))))))))))))))] Try.func3 rfl rfl fun E hE => ?_
  unfold Pr.sv
  have ev : IntKind.i64.wrap vr = vr := i64_in (by omega) (by omega)
  have er : IntKind.i64.wrap rg = rg := i64_in (by omega) (by omega)
  have es : IntKind.i64.wrap sl = sl := i64_in (by omega) (by omega)
  have ea : IntKind.i64.wrap at_ = at_ := i64_in (by omega) (by omega)
  have hcap := hl.cap
  repeat' ((fail_if_success with_reducible refine Stop.mk ?_); (conv => whnf); with_reducible first | refine br_t ?_ | refine br_f ?_ | refine br_nn ?_ | refine br_ns ?_ | refine br_not ?_ | refine br_d (fun h => ?_) (fun h => ?_) | refine br_e (fun h => ?_) (fun h => ?_) | refine br_n (fun h => ?_) (fun h => ?_) | refine drw_fast (by kernel_rfl) ?_ | refine chk (by kernel_rfl) ?_ | refine stop ?_)
  all_goals refine Stop.mk ?_
  refine call_fn [] (awake15_fn _) rfl trivial (by decide) ?_
  rintro sv H' G' ⟨rfl, rfl⟩ hg
  refine ⟨Nat.le_of_ble_eq_true rfl, ?_⟩
  replace hl := hl.to hg
  clear hg
  repeat' ((fail_if_success with_reducible refine Stop.mk ?_); (conv => whnf); with_reducible first | refine br_t ?_ | refine br_f ?_ | refine br_nn ?_ | refine br_ns ?_ | refine br_not ?_ | refine br_d (fun h => ?_) (fun h => ?_) | refine br_e (fun h => ?_) (fun h => ?_) | refine br_n (fun h => ?_) (fun h => ?_) | refine drw_fast (by kernel_rfl) ?_ | refine chk (by kernel_rfl) ?_ | refine stop ?_)
  all_goals refine Stop.mk ?_
  refine call_fn [] (rfew15_fn _ A c l hl) rfl trivial (by decide) ?_
  rintro sv H' G' ⟨⟨r, rfl, hfew⟩, rfl, rfl⟩ -
  refine ⟨Nat.le_of_ble_eq_true rfl, ?_⟩
  cases r
  ·
    repeat' ((fail_if_success with_reducible refine Stop.mk ?_); (conv => whnf); with_reducible first | refine br_t ?_ | refine br_f ?_ | refine br_nn ?_ | refine br_ns ?_ | refine br_not ?_ | refine br_d (fun h => ?_) (fun h => ?_) | refine br_e (fun h => ?_) (fun h => ?_) | refine br_n (fun h => ?_) (fun h => ?_) | refine drw_fast (by kernel_rfl) ?_ | refine chk (by kernel_rfl) ?_ | refine stop ?_)
    all_goals refine Stop.mk ?_
    refine call_fn [] (awake15_fn _) rfl trivial (by decide) ?_
    rintro sv H' G' ⟨rfl, rfl⟩ -
    refine ⟨Nat.le_of_ble_eq_true rfl, ?_⟩
    repeat' ((fail_if_success with_reducible refine Stop.mk ?_); (conv => whnf); with_reducible first | refine br_t ?_ | refine br_f ?_ | refine br_nn ?_ | refine br_ns ?_ | refine br_not ?_ | refine br_d (fun h => ?_) (fun h => ?_) | refine br_e (fun h => ?_) (fun h => ?_) | refine br_n (fun h => ?_) (fun h => ?_) | refine drw_fast (by kernel_rfl) ?_ | refine chk (by kernel_rfl) ?_ | refine stop ?_)
    all_goals refine Stop.mk ?_
    exact fin_id hE 0 rfl rfl rfl rfl ⟨rfl, rfl⟩
  obtain ⟨h40, h400⟩ := hfew rfl
  clear hfew
  repeat' ((fail_if_success with_reducible refine Stop.mk ?_); (conv => whnf); first | with_reducible refine br_t ?_ | with_reducible refine br_f ?_ | with_reducible refine br_nn ?_ | with_reducible refine br_ns ?_ | with_reducible refine br_not ?_ | ((with_reducible refine br_d (fun h => ?_) (fun h => ?_)) <;> try (exfalso; omega)) | ((with_reducible refine br_e (fun h => ?_) (fun h => ?_)) <;> try (exfalso; omega)) | ((with_reducible refine br_n (fun h => ?_) (fun h => ?_)) <;> try (exfalso; omega)) | with_reducible refine drw_fast (by kernel_rfl) ?_ | with_reducible refine chk (by kernel_rfl) ?_ | with_reducible refine stop ?_)
  all_goals refine Stop.mk ?_
  ·
    refine call_fn [] (awake15_fn _) rfl trivial (by decide) ?_
    rintro sv H' G' ⟨rfl, rfl⟩ -
    refine ⟨Nat.le_of_ble_eq_true rfl, ?_⟩
    repeat' ((fail_if_success with_reducible refine Stop.mk ?_); (conv => whnf); with_reducible first | refine br_t ?_ | refine br_f ?_ | refine br_nn ?_ | refine br_ns ?_ | refine br_not ?_ | refine br_d (fun h => ?_) (fun h => ?_) | refine br_e (fun h => ?_) (fun h => ?_) | refine br_n (fun h => ?_) (fun h => ?_) | refine drw_fast (by kernel_rfl) ?_ | refine chk (by kernel_rfl) ?_ | refine stop ?_)
    all_goals refine Stop.mk ?_
    exact fin_id hE 0 rfl rfl rfl rfl ⟨rfl, rfl⟩
  have htot := tot_mulE 400 l h400
  rw [ev, er, es]
  refine call_fn [] (edgeValid_fn _ A c l l.length vr rg sl hl (by omega) (by omega)) rfl trivial (by decide) ?_
  rintro sv H' G' ⟨rfl, rfl, rfl⟩ -
  refine ⟨Nat.le_of_ble_eq_true rfl, ?_⟩
  by_cases he : eInv l.length vr rg sl l = 0
  case neg =>
    generalize eInv l.length vr rg sl l = e at *
    have hb : (e != 0) = true := by rw [bne_iff_ne]; exact he
    repeat' ((fail_if_success with_reducible refine Stop.mk ?_); (conv => whnf); first | with_reducible refine br_t ?_ | with_reducible refine br_f ?_ | with_reducible refine br_nn ?_ | with_reducible refine br_ns ?_ | with_reducible refine br_not ?_ | ((with_reducible refine br_d (fun h => ?_) (fun h => ?_)) <;> try (exfalso; omega)) | ((with_reducible refine br_e (fun h => ?_) (fun h => ?_)) <;> try (exfalso; omega)) | ((with_reducible refine br_n (fun h => ?_) (fun h => ?_)) <;> try (exfalso; omega)) | with_reducible refine drw_fast (by kernel_rfl) ?_ | with_reducible refine chk (by kernel_rfl) ?_ | with_reducible refine stop ?_)
    all_goals refine Stop.mk ?_
    all_goals exact fin_id hE 0 rfl rfl rfl rfl ⟨congrArg (fun q => SV.v (.bool q)) hb, rfl⟩
  rw [he]
  repeat' ((fail_if_success with_reducible refine Stop.mk ?_); (conv => whnf); with_reducible first | refine br_t ?_ | refine br_f ?_ | refine br_nn ?_ | refine br_ns ?_ | refine br_not ?_ | refine br_d (fun h => ?_) (fun h => ?_) | refine br_e (fun h => ?_) (fun h => ?_) | refine br_n (fun h => ?_) (fun h => ?_) | refine drw_fast (by kernel_rfl) ?_ | refine chk (by kernel_rfl) ?_ | refine stop ?_)
  all_goals refine Stop.mk ?_
  have ew : IntKind.i64.wrap ((l.length : Int) + 1) = (l.length : Int) + 1 := i64_in (by omega) (by omega)
  rw [ev, er, es, ew]
  refine call_fn [] (edgeValid_fn _ A c l ((l.length : Int) + 1) vr rg sl hl (by omega) (by omega)) rfl trivial (by decide) ?_
  rintro sv H' G' ⟨rfl, rfl, rfl⟩ -
  have e14 : eInv ((l.length : Int) + 1) vr rg sl l = 14 := by unfold eInv; rw [if_pos (by omega)]
  rw [e14]
  refine ⟨Nat.le_of_ble_eq_true rfl, ?_⟩
  repeat' ((fail_if_success with_reducible refine Stop.mk ?_); (conv => whnf); with_reducible first | refine br_t ?_ | refine br_f ?_ | refine br_nn ?_ | refine br_ns ?_ | refine br_not ?_ | refine br_d (fun h => ?_) (fun h => ?_) | refine br_e (fun h => ?_) (fun h => ?_) | refine br_n (fun h => ?_) (fun h => ?_) | refine drw_fast (by kernel_rfl) ?_ | refine chk (by kernel_rfl) ?_ | refine stop ?_)
  all_goals refine Stop.mk ?_
  all_goals try (exfalso; first | exact h rfl | exact h (by decide) | omega)
  rw [ea]
  refine ⟨by omega, ?_⟩
  have ek : at_.tmod (l.length : Int) = ((at_.toNat % l.length : Nat) : Int) := by
    rw [Int.tmod_eq_emod_of_nonneg (by omega)]; push_cast; rw [Int.toNat_of_nonneg (by omega)]
  rw [ek]
  have hk := Nat.mod_lt at_.toNat (show 0 < l.length by omega)
  generalize at_.toNat % l.length = k at *
  obtain ⟨css, hR, hSl⟩ := id hl
  repeat' ((fail_if_success with_reducible refine Stop.mk ?_); (conv => whnf); with_reducible first | refine br_t ?_ | refine br_f ?_ | refine br_nn ?_ | refine br_ns ?_ | refine br_not ?_ | refine br_d (fun h => ?_) (fun h => ?_) | refine br_e (fun h => ?_) (fun h => ?_) | refine br_n (fun h => ?_) (fun h => ?_) | refine drw_fast (by kernel_rfl) ?_ | refine chk (by kernel_rfl) ?_ | refine stop ?_)
  all_goals refine Stop.mk ?_
  refine ⟨css.flatten, hSl, ⟨by show (0 + l.length) * 24 ≤ _; omega, ?_⟩⟩
  simp only [Nat.zero_add, List.nil_append]
  repeat' ((fail_if_success with_reducible refine Stop.mk ?_); (conv => whnf); with_reducible first | refine br_t ?_ | refine br_f ?_ | refine br_nn ?_ | refine br_ns ?_ | refine br_not ?_ | refine br_d (fun h => ?_) (fun h => ?_) | refine br_e (fun h => ?_) (fun h => ?_) | refine br_n (fun h => ?_) (fun h => ?_) | refine drw_fast (by kernel_rfl) ?_ | refine chk (by kernel_rfl) ?_ | refine stop ?_)
  all_goals refine Stop.mk ?_
  obtain ⟨_, hs_, hat_⟩ := hl.at (sz := 1) rfl
  refine ⟨⟨by omega, by omega⟩, _, hs_, fun ad had hadr => ?_⟩
  obtain ⟨ps, cells, hps, hRps, hGps⟩ := hat_ k (by omega) ad (by first | exact had | (rw [Int.toNat_natCast] at had; exact had))
  clear had hat_ hs_
  obtain ⟨A', c', rfl, hSp⟩ := kPrs_R hRps
  have hpl := h400 ps (List.mem_of_getElem? hps)
  have hcap2 := hSp.cap
  obtain ⟨ics, hI1, hI2⟩ := id hSp
  repeat' ((fail_if_success with_reducible refine Stop.mk ?_); (conv => whnf); with_reducible first | refine br_t ?_ | refine br_f ?_ | refine br_nn ?_ | refine br_ns ?_ | refine br_not ?_ | refine br_d (fun h => ?_) (fun h => ?_) | refine br_e (fun h => ?_) (fun h => ?_) | refine br_n (fun h => ?_) (fun h => ?_) | refine drw_fast (by kernel_rfl) ?_ | refine chk (by kernel_rfl) ?_ | refine stop ?_)
  all_goals refine Stop.mk ?_
  refine ⟨_, ld1 hGps, ?_⟩
  repeat' ((fail_if_success with_reducible refine Stop.mk ?_); (conv => whnf); with_reducible first | refine br_t ?_ | refine br_f ?_ | refine br_nn ?_ | refine br_ns ?_ | refine br_not ?_ | refine br_d (fun h => ?_) (fun h => ?_) | refine br_e (fun h => ?_) (fun h => ?_) | refine br_n (fun h => ?_) (fun h => ?_) | refine drw_fast (by kernel_rfl) ?_ | refine chk (by kernel_rfl) ?_ | refine stop ?_)
  all_goals refine Stop.mk ?_
  refine And.intro ?_ ?_
  all_goals
    repeat' ((fail_if_success with_reducible refine Stop.mk ?_); (conv => whnf); with_reducible first | refine br_t ?_ | refine br_f ?_ | refine br_nn ?_ | refine br_ns ?_ | refine br_not ?_ | refine br_d (fun h => ?_) (fun h => ?_) | refine br_e (fun h => ?_) (fun h => ?_) | refine br_n (fun h => ?_) (fun h => ?_) | refine drw_fast (by kernel_rfl) ?_ | refine chk (by kernel_rfl) ?_ | refine stop ?_)
    all_goals refine Stop.mk ?_
  focus
    refine And.intro ?_ ?_
    all_goals
      repeat' ((fail_if_success with_reducible refine Stop.mk ?_); (conv => whnf); with_reducible first | refine br_t ?_ | refine br_f ?_ | refine br_nn ?_ | refine br_ns ?_ | refine br_not ?_ | refine br_d (fun h => ?_) (fun h => ?_) | refine br_e (fun h => ?_) (fun h => ?_) | refine br_n (fun h => ?_) (fun h => ?_) | refine drw_fast (by kernel_rfl) ?_ | refine chk (by kernel_rfl) ?_ | refine stop ?_)
      all_goals refine Stop.mk ?_
  all_goals
    refine ⟨ics.flatten, hI2, ⟨by show (0 + ps.length) * 16 ≤ _; omega, ?_⟩⟩
    simp only [Nat.zero_add, List.nil_append]
    repeat' ((fail_if_success with_reducible refine Stop.mk ?_); (conv => whnf); with_reducible first | refine br_t ?_ | refine br_f ?_ | refine br_nn ?_ | refine br_ns ?_ | refine br_not ?_ | refine br_d (fun h => ?_) (fun h => ?_) | refine br_e (fun h => ?_) (fun h => ?_) | refine br_n (fun h => ?_) (fun h => ?_) | refine drw_fast (by kernel_rfl) ?_ | refine chk (by kernel_rfl) ?_ | refine stop ?_)
    all_goals refine Stop.mk ?_
    refine ⟨by simp [Value.oneCell'], by show (ps.length + 1) * 16 ≤ _; omega, ?_⟩
    repeat' ((fail_if_success with_reducible refine Stop.mk ?_); (conv => whnf); with_reducible first | refine br_t ?_ | refine br_f ?_ | refine br_nn ?_ | refine br_ns ?_ | refine br_not ?_ | refine br_d (fun h => ?_) (fun h => ?_) | refine br_e (fun h => ?_) (fun h => ?_) | refine br_n (fun h => ?_) (fun h => ?_) | refine drw_fast (by kernel_rfl) ?_ | refine chk (by kernel_rfl) ?_ | refine stop ?_)
    all_goals refine Stop.mk ?_
    refine ⟨⟨by omega, by omega⟩, ?_⟩
    simp only [Int.toNat_natCast, Nat.mul_one, Nat.zero_add]
    repeat' ((fail_if_success with_reducible refine Stop.mk ?_); (conv => whnf); with_reducible first | refine br_t ?_ | refine br_f ?_ | refine br_nn ?_ | refine br_ns ?_ | refine br_not ?_ | refine br_d (fun h => ?_) (fun h => ?_) | refine br_e (fun h => ?_) (fun h => ?_) | refine br_n (fun h => ?_) (fun h => ?_) | refine drw_fast (by kernel_rfl) ?_ | refine chk (by kernel_rfl) ?_ | refine stop ?_)
    all_goals refine Stop.mk ?_
    refine And.intro (fun u hu => ?_) ?_
    · rcases List.mem_append.1 hu with hu | hu
      · exact hI2.ones u hu
      · simp at hu; rcases hu with rfl | rfl <;> rfl
    intro Ap cp Gp hgp hsp hkp
    (conv => whnf)
    refine And.intro (by rw [hSl.len]; show k < l.length * 1; omega) ?_
    repeat' ((fail_if_success with_reducible refine Stop.mk ?_); (conv => whnf); with_reducible first | refine br_t ?_ | refine br_f ?_ | refine br_nn ?_ | refine br_ns ?_ | refine br_not ?_ | refine br_d (fun h => ?_) (fun h => ?_) | refine br_e (fun h => ?_) (fun h => ?_) | refine br_n (fun h => ?_) (fun h => ?_) | refine drw_fast (by kernel_rfl) ?_ | refine chk (by kernel_rfl) ?_ | refine stop ?_)
    all_goals refine Stop.mk ?_
  all_goals
    rw [ev, er, es]
    have hrl : ∀ r ∈ css, r.length = 1 := kPrs.rows_len hR
    have hones : ∀ u ∈ css.flatten.set k (.slice Ap (ps.length + 1) cp), u.oneCell' = true := fun u hu => by
      rcases List.mem_or_eq_of_mem_set hu with hu | rfl
      · exact hSl.ones u hu
      · rfl
    refine call_fz 1 rfl hones (enters_of Try.func9 rfl rfl) fun Aq cq Gq hgq hsq => ?_
    (conv => whnf)
    have hcs : kPr.Cs _ ps ics.flatten := ⟨ics, hI1, rfl⟩
    have hrow : kPr.S Gp Ap cp (ps ++ [x]) := Kd.S.of hsp (by simp) rfl ((hcs.to hgp).snoc ⟨rfl, hx⟩)
    have hRq : All2 (kPrs.R Gq) (l.set k (ps ++ [x])) (css.set k [.slice Ap (ps.length + 1) cp]) := by
      refine all2_set ⟨Ap, cp, by simp, hrow.to hgq⟩ k (hR.imp fun _ _ hr => kPrs.mono (fun b o h => hgq b o (hgp b o h)) hr)
    have hlen : (l.set k (ps ++ [x])).length = l.length := by simp
    have hl' : kPrs.S Gq Aq cq (l.set k (ps ++ [x])) := ⟨_, hRq, by rw [hlen, ← flat_set1 css k _ hrl]; exact hsq⟩
    have h401 : ∀ y ∈ l.set k (ps ++ [x]), y.length ≤ 401 := fun y hy => by
      rcases List.mem_or_eq_of_mem_set hy with hy | rfl
      · have := h400 y hy; omega
      · simp; omega
    have htot' := tot_mulE 401 _ h401
    rw [hlen] at htot'
    have hd := edgeValid_fn Gq Aq cq (l.set k (ps ++ [x])) l.length vr rg sl hl' (by omega) (by omega)
    rw [hlen, eInv_set he rfl h40 h400 hps] at hd
    replace hl := (hl.to hgp).to hgq
    replace hSp := (hSp.to hgp).to hgq
    refine call_fn [] hd rfl trivial (by decide) ?_
    rintro sv H' G9 ⟨rfl, rfl, rfl⟩ -
    refine ⟨Nat.le_of_ble_eq_true rfl, ?_⟩
    have hep := ePr_is (vregs := vr) (regs := rg) (slots := sl) (ps := ps ++ [x]) (j := ps.length) (x := x) (by simp)
    generalize ePr vr rg sl (ps ++ [x]) ps.length = e2 at *
    have hx2 := hx.2
    unfold in64 at hx2
    have hm : 0 ≤ x.l → x.l.tmod 2 = x.l % 2 := fun h => Int.tmod_eq_emod_of_nonneg h
    have hdv : 0 ≤ x.l → IntKind.i64.wrap (x.l.tdiv 2) = x.l / 2 := fun h => by rw [Int.tdiv_eq_ediv_of_nonneg h]; exact i64_in (by omega) (by omega)
    clear hd hl' hRq hcs hrow hones hrl hR hSl hI1 hI2 hsp hsq hgp hgq hkp htot' h401
    repeat' ((fail_if_success with_reducible refine Stop.mk ?_); (conv => whnf); first | with_reducible refine br_t ?_ | with_reducible refine br_f ?_ | with_reducible refine br_nn ?_ | with_reducible refine br_ns ?_ | with_reducible refine br_not ?_ | ((with_reducible refine br_d (fun h => ?_) (fun h => ?_)) <;> try (exfalso; omega)) | ((with_reducible refine br_e (fun h => ?_) (fun h => ?_)) <;> try (exfalso; omega)) | ((with_reducible refine br_n (fun h => ?_) (fun h => ?_)) <;> try (exfalso; omega)) | with_reducible refine drw_fast (by kernel_rfl) ?_ | with_reducible refine chk (by kernel_rfl) ?_ | with_reducible refine stop ?_)
    all_goals refine Stop.mk ?_
  all_goals try
    have h99 : e2 = 9 := by rw [hep, if_pos (by omega)]
    exact fin_id hE 0 rfl rfl rfl rfl ⟨by rw [h99]; rfl, rfl⟩
  all_goals try
    have h99 : e2 = 10 := by rw [hep, if_neg (by omega), if_pos (by unfold inRange; omega)]
    exact fin_id hE 0 rfl rfl rfl rfl ⟨by rw [h99]; rfl, rfl⟩
  all_goals
    have hin : inRange x.l rg sl := by unfold inRange; omega
    rw [if_neg (by omega), if_neg (not_not_intro hin)] at hep
    obtain ⟨_, hs_, hat_⟩ := hl.at (sz := 1) rfl
    refine ⟨⟨by omega, by omega⟩, _, hs_, fun ad had hadr => ?_⟩
    obtain ⟨ps2, cells, hps2, hRps2, hGps2⟩ := hat_ k (by omega) ad (by first | exact had | (rw [Int.toNat_natCast] at had; exact had))
    clear had hat_ hs_
    obtain rfl := Option.some.inj (hps.symm.trans hps2)
    obtain ⟨A3, c3, rfl, hS3⟩ := kPrs_R hRps2
    repeat' ((fail_if_success with_reducible refine Stop.mk ?_); (conv => whnf); with_reducible first | refine br_t ?_ | refine br_f ?_ | refine br_nn ?_ | refine br_ns ?_ | refine br_not ?_ | refine br_d (fun h => ?_) (fun h => ?_) | refine br_e (fun h => ?_) (fun h => ?_) | refine br_n (fun h => ?_) (fun h => ?_) | refine drw_fast (by kernel_rfl) ?_ | refine chk (by kernel_rfl) ?_ | refine stop ?_)
    all_goals refine Stop.mk ?_
    refine ⟨_, ld1 hGps2, ?_⟩
    repeat' ((fail_if_success with_reducible refine Stop.mk ?_); (conv => whnf); first | with_reducible refine br_t ?_ | with_reducible refine br_f ?_ | with_reducible refine br_nn ?_ | with_reducible refine br_ns ?_ | with_reducible refine br_not ?_ | ((with_reducible refine br_d (fun h => ?_) (fun h => ?_)) <;> try (exfalso; omega)) | ((with_reducible refine br_e (fun h => ?_) (fun h => ?_)) <;> try (exfalso; omega)) | ((with_reducible refine br_n (fun h => ?_) (fun h => ?_)) <;> try (exfalso; omega)) | with_reducible refine drw_fast (by kernel_rfl) ?_ | with_reducible refine chk (by kernel_rfl) ?_ | with_reducible refine stop ?_)
    all_goals refine Stop.mk ?_
  all_goals try
    have h99 : e2 = 0 := by rw [hep, if_neg (fun h9 => absurd h9.1 (by omega))]
    exact fin_id hE 0 rfl rfl rfl rfl ⟨by rw [h99]; rfl, rfl⟩
  all_goals
    obtain ⟨_, hs_, hat_⟩ := hl.at (sz := 1) rfl
    refine ⟨⟨by omega, by omega⟩, _, hs_, fun ad had hadr => ?_⟩
    obtain ⟨ps3, cells, hps3, hRps3, hGps3⟩ := hat_ k (by omega) ad (by first | exact had | (rw [Int.toNat_natCast] at had; exact had))
    clear had hat_ hs_
    obtain rfl := Option.some.inj (hps.symm.trans hps3)
    obtain ⟨A4, c4, rfl, hS4⟩ := kPrs_R hRps3
    repeat' ((fail_if_success with_reducible refine Stop.mk ?_); (conv => whnf); with_reducible first | refine br_t ?_ | refine br_f ?_ | refine br_nn ?_ | refine br_ns ?_ | refine br_not ?_ | refine br_d (fun h => ?_) (fun h => ?_) | refine br_e (fun h => ?_) (fun h => ?_) | refine br_n (fun h => ?_) (fun h => ?_) | refine drw_fast (by kernel_rfl) ?_ | refine chk (by kernel_rfl) ?_ | refine stop ?_)
    all_goals refine Stop.mk ?_
    refine ⟨_, ld1 hGps3, ?_⟩
    repeat' ((fail_if_success with_reducible refine Stop.mk ?_); (conv => whnf); with_reducible first | refine br_t ?_ | refine br_f ?_ | refine br_nn ?_ | refine br_ns ?_ | refine br_not ?_ | refine br_d (fun h => ?_) (fun h => ?_) | refine br_e (fun h => ?_) (fun h => ?_) | refine br_n (fun h => ?_) (fun h => ?_) | refine drw_fast (by kernel_rfl) ?_ | refine chk (by kernel_rfl) ?_ | refine stop ?_)
    all_goals refine Stop.mk ?_
    obtain ⟨_, hs_, hat_⟩ := hl.at (sz := 1) rfl
    refine ⟨⟨by omega, by omega⟩, _, hs_, fun ad had hadr => ?_⟩
    obtain ⟨ps4, cells, hps4, hRps4, hGps4⟩ := hat_ k (by omega) ad (by first | exact had | (rw [Int.toNat_natCast] at had; exact had))
    clear had hat_ hs_
    obtain rfl := Option.some.inj (hps.symm.trans hps4)
    obtain ⟨A5, c5, rfl, hS5⟩ := kPrs_R hRps4
    repeat' ((fail_if_success with_reducible refine Stop.mk ?_); (conv => whnf); with_reducible first | refine br_t ?_ | refine br_f ?_ | refine br_nn ?_ | refine br_ns ?_ | refine br_not ?_ | refine br_d (fun h => ?_) (fun h => ?_) | refine br_e (fun h => ?_) (fun h => ?_) | refine br_n (fun h => ?_) (fun h => ?_) | refine drw_fast (by kernel_rfl) ?_ | refine chk (by kernel_rfl) ?_ | refine stop ?_)
    all_goals refine Stop.mk ?_
    refine ⟨_, ld1 hGps4, ?_⟩
    repeat' ((fail_if_success with_reducible refine Stop.mk ?_); (conv => whnf); with_reducible first | refine br_t ?_ | refine br_f ?_ | refine br_nn ?_ | refine br_ns ?_ | refine br_not ?_ | refine br_d (fun h => ?_) (fun h => ?_) | refine br_e (fun h => ?_) (fun h => ?_) | refine br_n (fun h => ?_) (fun h => ?_) | refine drw_fast (by kernel_rfl) ?_ | refine chk (by kernel_rfl) ?_ | refine stop ?_)
    all_goals refine Stop.mk ?_
    have hw1 : IntKind.i64.wrap ((ps.length : Int) - 1) = ((ps.length - 1 : Nat) : Int) := by rw [i64_in (by omega) (by omega)]; omega
    rw [hw1]
    have hpos : 0 < ps.length := by omega
    generalize hj : ps.length - 1 = j at *
    obtain ⟨_, hs_, hat_⟩ := hS4.at (sz := 2) rfl
    refine ⟨⟨by omega, by omega⟩, _, hs_, fun ad had hadr => ?_⟩
    obtain ⟨q, cells, hq, hRq, hGq⟩ := hat_ j (by omega) ad (by first | exact had | (rw [Int.toNat_natCast] at had; exact had))
    clear had hat_ hs_
    obtain ⟨rfl, hq1, hq2⟩ := hRq
    have hgq : (ps ++ [x]).getD j pr0 = q := by rw [List.getD_eq_getElem?_getD, List.getElem?_append_left (by omega), hq]; rfl
    rw [hgq] at hep
    repeat' ((fail_if_success with_reducible refine Stop.mk ?_); (conv => whnf); with_reducible first | refine br_t ?_ | refine br_f ?_ | refine br_nn ?_ | refine br_ns ?_ | refine br_not ?_ | refine br_d (fun h => ?_) (fun h => ?_) | refine br_e (fun h => ?_) (fun h => ?_) | refine br_n (fun h => ?_) (fun h => ?_) | refine drw_fast (by kernel_rfl) ?_ | refine chk (by kernel_rfl) ?_ | refine stop ?_)
    all_goals refine Stop.mk ?_
    refine ⟨_, rfl, hGq, ?_⟩
    repeat' ((fail_if_success with_reducible refine Stop.mk ?_); (conv => whnf); with_reducible first | refine br_t ?_ | refine br_f ?_ | refine br_nn ?_ | refine br_ns ?_ | refine br_not ?_ | refine br_d (fun h => ?_) (fun h => ?_) | refine br_e (fun h => ?_) (fun h => ?_) | refine br_n (fun h => ?_) (fun h => ?_) | refine drw_fast (by kernel_rfl) ?_ | refine chk (by kernel_rfl) ?_ | refine stop ?_)
    all_goals refine Stop.mk ?_
    refine call_fn [] (rless_fn _ q x) rfl trivial (by decide) ?_
    rintro sv H' G10 ⟨rfl, rfl, rfl⟩ -
    refine ⟨Nat.le_of_ble_eq_true rfl, ?_⟩
    by_cases hlt : ltP q x
    · have h99 : e2 = 0 := by rw [hep, if_neg (fun h9 => h9.2 hlt)]
      rw [decide_eq_true hlt]
      repeat' ((fail_if_success with_reducible refine Stop.mk ?_); (conv => whnf); with_reducible first | refine br_t ?_ | refine br_f ?_ | refine br_nn ?_ | refine br_ns ?_ | refine br_not ?_ | refine br_d (fun h => ?_) (fun h => ?_) | refine br_e (fun h => ?_) (fun h => ?_) | refine br_n (fun h => ?_) (fun h => ?_) | refine drw_fast (by kernel_rfl) ?_ | refine chk (by kernel_rfl) ?_ | refine stop ?_)
      all_goals refine Stop.mk ?_
      exact fin_id hE 0 rfl rfl rfl rfl ⟨by rw [h99]; rfl, rfl⟩
    · have h99 : e2 = 13 := by rw [hep, if_pos ⟨hpos, hlt⟩]
      rw [decide_eq_false hlt]
      repeat' ((fail_if_success with_reducible refine Stop.mk ?_); (conv => whnf); with_reducible first | refine br_t ?_ | refine br_f ?_ | refine br_nn ?_ | refine br_ns ?_ | refine br_not ?_ | refine br_d (fun h => ?_) (fun h => ?_) | refine br_e (fun h => ?_) (fun h => ?_) | refine br_n (fun h => ?_) (fun h => ?_) | refine drw_fast (by kernel_rfl) ?_ | refine chk (by kernel_rfl) ?_ | refine stop ?_)
      all_goals refine Stop.mk ?_
      exact fin_id hE 0 rfl rfl rfl rfl ⟨by rw [h99]; rfl, rfl⟩
end Go.Proofs.Ytglelcgllodhoaa.Cu
