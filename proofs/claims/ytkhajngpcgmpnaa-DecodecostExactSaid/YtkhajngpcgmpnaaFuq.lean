/- Fuq: InF, InG, Fu3, Fu8, Fu9, FuA, FuB, FuC, FuE, FuF, FuG, FuH, FuI, FuJ, FuK in one text. -/
import Derived.Test.YtkhajngpcgmpnaaInz
import Derived.Test.YtkhajngpcgmpnaaIny
import Derived.Test.YtkhajngpcgmpnaaFu2
import Derived.Test.YtkhajngpcgmpnaaSXg
import Derived.Test.YtkhajngpcgmpnaaFu5
import Derived.Test.YtkhajngpcgmpnaaFu7
namespace Go.Proofs.Ytkhajngpcgmpnaa.Cu
open Go Go.SX Go.Proofs.Ytkhajngpcgmpnaa.VT
set_option maxRecDepth 100000
set_option linter.unusedVariables false
set_option linter.unusedSimpArgs false

theorem okIns_ok {regs : Int} {i : Ins} (h : okIns regs i) (hr : regs ≤ 9223372036854775807) : i.ok := by
  obtain ⟨⟨h1, h2⟩, h3, h4, h5, h6⟩ := h
  unfold known at h1
  refine ⟨by unfold in64; omega, ?_, ?_, ?_, ?_⟩
  · unfold in64; split at h3 <;> omega
  · unfold in64; split at h4 <;> omega
  · unfold in64; split at h5 <;> omega
  · split at h6
    · exact h6
    · unfold in64; omega
theorem okMac_ok {regs slots : Int} {i : Mac} (h : okMac regs slots i) (hr : regs ≤ 9223372036854775807) : i.ok := by
  obtain ⟨⟨h1, h2⟩, h⟩ := h
  unfold known at h1
  split at h
  · obtain ⟨⟨h3, h4, h5, h6⟩, ⟨h7, h8⟩, _⟩ := h
    have h9 := h7.1.1
    have h10 := h7.2
    have h11 := h8.1.1
    have h12 := h8.2
    refine ⟨?_, ?_, ?_, ?_, ?_, ?_, ?_⟩ <;> unfold in64 <;> omega
  · obtain ⟨⟨h7, h8⟩, h3, h4, h5, h6⟩ := h
    refine ⟨by unfold in64; omega, ?_, ?_, ?_, ?_, by unfold in64; omega, by unfold in64; omega⟩
    · unfold in64; split at h3 <;> omega
    · unfold in64; split at h4 <;> omega
    · unfold in64; split at h5 <;> omega
    · split at h6
      · exact h6
      · unfold in64; omega
theorem rd_true {b w r : List Int} (h : b = w ++ r) : decide (b.length - (r, (0 : Int)).1.length = w.length ∧ b.take w.length = w) = true := by
  subst h
  refine decide_eq_true ⟨?_, by simp⟩
  dsimp only
  rw [List.length_append]; omega
theorem sh1 : ∀ e : Int, e = 1 → e ≠ 0 := by omega
end Go.Proofs.Ytkhajngpcgmpnaa.Cu

namespace Go.Proofs.Ytkhajngpcgmpnaa.Cu
open Go Go.SX Go.Proofs.Ytkhajngpcgmpnaa.VT
set_option maxRecDepth 100000
set_option linter.unusedVariables false
set_option linter.unusedSimpArgs false

theorem frzC {P : Program} {f : FuncId} {args : List SV} {G : Gh} {l : List Int} (h : Ct P f args [] G fun sv H' G' => sv = .s 0 ∧ H' = [rowB l] ∧ G' = G) :
    Ct P f args [] G fun sv H' G' => (∃ A c, sv = .v (.slice A l.length c) ∧ SlB G' A c l) ∧ H' = [] :=
  h.fin fun E sv H' G' hE hp => by
    obtain ⟨rfl, rfl, _⟩ := hp
    exact fin_done 0 rfl (byts_one _) fun A c G2 hg hs => fin_id hE 0 rfl rfl rfl rfl ⟨⟨A, c, rfl, hs⟩, rfl⟩
theorem isB_app2 {l m : List Int} (h : isB l) (h2 : isB m) : isB (l ++ m) := fun x hx => by
  rcases List.mem_append.1 hx with hx | hx
  · exact h x hx
  · exact h2 x hx
theorem isB_nil : isB [] := fun x hx => by simp at hx
theorem isB_if {p : Prop} [Decidable p] {l : List Int} (h : isB l) : isB (if p then l else []) := by
  split
  · exact h
  · exact isB_nil
theorem isB_cons {x : Int} {l : List Int} (hx : 0 ≤ x ∧ x ≤ 255) (h : isB l) : isB (x :: l) := fun y hy => by
  rcases List.mem_cons.1 hy with rfl | hy
  · exact hx
  · exact h y hy
theorem putB_isb (n : Nat) (h : n < 18446744073709551616) : isB (putB n) := vput_byte 9 n (by simpa using h)
theorem pU_isb (n : Int) : isB (pU n) := putB_isb _ (by have := pU_nat n; omega)
theorem u8_isb (n : Int) : 0 ≤ IntKind.u8.wrap n ∧ IntKind.u8.wrap n ≤ 255 := by rw [IntKind.wrap_u8]; omega
theorem fieldsB_isb (sD sA sB sI : Bool) (d a b imm : Int) (h : in64 imm) : isB (fieldsB sD sA sB sI d a b imm) := by
  have hz := zig_range imm h.1 h.2
  exact isB_app2 (isB_app2 (isB_app2 (isB_if (pU_isb _)) (isB_if (pU_isb _))) (isB_if (pU_isb _))) (isB_if (putB_isb _ (by omega)))
theorem putInsB_isb (i : Ins) (h : in64 i.imm) : isB (putInsB i) := isB_cons (u8_isb _) (fieldsB_isb _ _ _ _ _ _ _ _ h)
theorem putMacB_isb (i : Mac) (h : in64 i.imm) : isB (putMacB i) := isB_cons (u8_isb _) (isB_app2 (fieldsB_isb _ _ _ _ _ _ _ _ h) (isB_if (isB_app2 (pU_isb _) (pU_isb _))))
theorem putTrmB_isb (t : Trm) : isB (putTrmB t) := isB_cons (u8_isb _) (isB_app2 (isB_app2 (isB_if (pU_isb _)) (isB_if (pU_isb _))) (isB_if (pU_isb _)))
end Go.Proofs.Ytkhajngpcgmpnaa.Cu

namespace Go.Proofs.Ytkhajngpcgmpnaa.Cu
open Go Go.SX Go.Proofs.Ytkhajngpcgmpnaa.VT
set_option maxRecDepth 100000
set_option linter.unusedVariables false
set_option linter.unusedSimpArgs false

theorem r18put_fn (G : Gh) (l : List Int) (n : Int) (hl : l.length ≤ 1000000) :
    Ct Try.prog 69 [.s 0, .v (.int .i64 n)] [rowB l] G fun sv H' G' => sv = .s 0 ∧ H' = [rowB (l ++ pU n)] ∧ G' = G := by
  have hp := pU_len n
  have hn := pU_nat n
  have hrp := rput_fn G (IntKind.u64.wrap n).toNat (by omega)
  rw [Int.toNat_of_nonneg hn.1] at hrp
  refine fn_of follows [] Try.func69 rfl rfl fun E hE => ?_
  repeat' ((fail_if_success with_reducible refine Stop.mk ?_); (conv => whnf); with_reducible first | refine br_t ?_ | refine br_f ?_ | refine br_nn ?_ | refine br_ns ?_ | refine br_not ?_ | refine br_d (fun h => ?_) (fun h => ?_) | refine br_e (fun h => ?_) (fun h => ?_) | refine br_n (fun h => ?_) (fun h => ?_) | refine drw (by kernel_rfl) ?_ | refine chk (by kernel_rfl) ?_ | refine stop ?_)
  all_goals refine Stop.mk ?_
  refine call_fn [] (hrp) rfl trivial (by decide) ?_
  rintro sv H' G' ⟨rfl, rfl, rfl⟩ -
  refine ⟨Nat.le_of_ble_eq_true rfl, ?_⟩
  repeat' ((fail_if_success with_reducible refine Stop.mk ?_); (conv => whnf); with_reducible first | refine br_t ?_ | refine br_f ?_ | refine br_nn ?_ | refine br_ns ?_ | refine br_not ?_ | refine br_d (fun h => ?_) (fun h => ?_) | refine br_e (fun h => ?_) (fun h => ?_) | refine br_n (fun h => ?_) (fun h => ?_) | refine drw (by kernel_rfl) ?_ | refine chk (by kernel_rfl) ?_ | refine stop ?_)
  all_goals refine Stop.mk ?_
  refine ⟨byts_one _, ⟨by show (l.length + (pU n).length) * 1 ≤ _; omega, ?_⟩⟩
  repeat' ((fail_if_success with_reducible refine Stop.mk ?_); (conv => whnf); with_reducible first | refine br_t ?_ | refine br_f ?_ | refine br_nn ?_ | refine br_ns ?_ | refine br_not ?_ | refine br_d (fun h => ?_) (fun h => ?_) | refine br_e (fun h => ?_) (fun h => ?_) | refine br_n (fun h => ?_) (fun h => ?_) | refine drw (by kernel_rfl) ?_ | refine chk (by kernel_rfl) ?_ | refine stop ?_)
  all_goals refine Stop.mk ?_
  refine fin_id hE 1 rfl rfl rfl rfl ⟨rfl, ?_, rfl⟩
  rw [← rowB_app']; rfl
theorem r18put0_fn (G : Gh) (n : Int) :
    Ct Try.prog 69 [.v (.slice none 0 0), .v (.int .i64 n)] [] G fun sv H' G' => sv = .s 0 ∧ H' = [rowB (pU n)] ∧ G' = G := by
  have hp := pU_len n
  have hn := pU_nat n
  have hrp := rput_fn G (IntKind.u64.wrap n).toNat (by omega)
  rw [Int.toNat_of_nonneg hn.1] at hrp
  refine fn_of follows [] Try.func69 rfl rfl fun E hE => ?_
  repeat' ((fail_if_success with_reducible refine Stop.mk ?_); (conv => whnf); with_reducible first | refine br_t ?_ | refine br_f ?_ | refine br_nn ?_ | refine br_ns ?_ | refine br_not ?_ | refine br_d (fun h => ?_) (fun h => ?_) | refine br_e (fun h => ?_) (fun h => ?_) | refine br_n (fun h => ?_) (fun h => ?_) | refine drw (by kernel_rfl) ?_ | refine chk (by kernel_rfl) ?_ | refine stop ?_)
  all_goals refine Stop.mk ?_
  refine call_fn [] (hrp) rfl trivial (by decide) ?_
  rintro sv H' G' ⟨rfl, rfl, rfl⟩ -
  refine ⟨Nat.le_of_ble_eq_true rfl, ?_⟩
  repeat' ((fail_if_success with_reducible refine Stop.mk ?_); (conv => whnf); with_reducible first | refine br_t ?_ | refine br_f ?_ | refine br_nn ?_ | refine br_ns ?_ | refine br_not ?_ | refine br_d (fun h => ?_) (fun h => ?_) | refine br_e (fun h => ?_) (fun h => ?_) | refine br_n (fun h => ?_) (fun h => ?_) | refine drw (by kernel_rfl) ?_ | refine chk (by kernel_rfl) ?_ | refine stop ?_)
  all_goals refine Stop.mk ?_
  refine ⟨byts_one _, by show (pU n).length * 1 ≤ _; omega, ?_⟩
  repeat' ((fail_if_success with_reducible refine Stop.mk ?_); (conv => whnf); with_reducible first | refine br_t ?_ | refine br_f ?_ | refine br_nn ?_ | refine br_ns ?_ | refine br_not ?_ | refine br_d (fun h => ?_) (fun h => ?_) | refine br_e (fun h => ?_) (fun h => ?_) | refine br_n (fun h => ?_) (fun h => ?_) | refine drw (by kernel_rfl) ?_ | refine chk (by kernel_rfl) ?_ | refine stop ?_)
  all_goals refine Stop.mk ?_
  refine fin_mk hE [1] (.s 0) [rowB (pU n)] rfl ⟨rfl, trivial⟩ rfl ⟨rfl, rfl, rfl⟩
theorem pU_nat2 (n : Nat) (h : n < 18446744073709551616) : pU (n : Int) = putB n := by unfold pU; rw [u64_in (by omega) (by omega)]; simp
/-- Source code that may be written by the reference. -/
def opsB (l : List Blk) : Prop := ∀ b ∈ l, ∀ i ∈ b.code, i.op ≠ 18
set_option maxHeartbeats 8000000 in
theorem rputFuncO_fn (G : Gh) (A : Option Addr) (c : Nat) (f : Fn) (hl : kBlk.S G A c f.blocks) (hsz : (wBs f.blocks).length ≤ 500000) (hbl : f.blocks.length ≤ 1000000) (hop : opsB f.blocks) :
    Ct Try.prog 39 [fnS A c f] [] G fun sv H' G' => sv = .s 0 ∧ H' = [rowB (wFn f)] := by
  refine fn_of follows [(1, (.cons 0 [] (.cons 1 [] (.cons 3 [] (.cons 4 [] (.cons 6 [] (.cons 7 [] (.cons 8 [] (.cons 2 [1] (.cons 5 [1, 4] (.cons 9 [1, 4, 7] (.cons 10 [] .nil))))))))))))] Try.func39 rfl rfl fun E hE => ?_
  have hcap := hl.cap
  have ha := pU_len f.args
  have hr := pU_len f.regs
  have hbn := putB_len f.blocks.length
  unfold fnS
  repeat' ((fail_if_success with_reducible refine Stop.mk ?_); (conv => whnf); with_reducible first | refine br_t ?_ | refine br_f ?_ | refine br_nn ?_ | refine br_ns ?_ | refine br_not ?_ | refine br_d (fun h => ?_) (fun h => ?_) | refine br_e (fun h => ?_) (fun h => ?_) | refine br_n (fun h => ?_) (fun h => ?_) | refine drw (by kernel_rfl) ?_ | refine chk (by kernel_rfl) ?_ | refine stop ?_)
  all_goals refine Stop.mk ?_
  refine call_fn [] (r18put0_fn _ f.args) rfl trivial (by decide) ?_
  rintro sv H' G' ⟨rfl, rfl, rfl⟩ -
  refine ⟨Nat.le_of_ble_eq_true rfl, ?_⟩
  repeat' ((fail_if_success with_reducible refine Stop.mk ?_); (conv => whnf); with_reducible first | refine br_t ?_ | refine br_f ?_ | refine br_nn ?_ | refine br_ns ?_ | refine br_not ?_ | refine br_d (fun h => ?_) (fun h => ?_) | refine br_e (fun h => ?_) (fun h => ?_) | refine br_n (fun h => ?_) (fun h => ?_) | refine drw (by kernel_rfl) ?_ | refine chk (by kernel_rfl) ?_ | refine stop ?_)
  all_goals refine Stop.mk ?_
  refine call_fn [1] (r18put_fn _ (pU f.args) f.regs (by omega)) rfl ⟨rfl, trivial⟩ (by decide) ?_
  rintro sv H' G' ⟨rfl, rfl, rfl⟩ -
  refine ⟨Nat.le_of_ble_eq_true rfl, ?_⟩
  repeat' ((fail_if_success with_reducible refine Stop.mk ?_); (conv => whnf); with_reducible first | refine br_t ?_ | refine br_f ?_ | refine br_nn ?_ | refine br_ns ?_ | refine br_not ?_ | refine br_d (fun h => ?_) (fun h => ?_) | refine br_e (fun h => ?_) (fun h => ?_) | refine br_n (fun h => ?_) (fun h => ?_) | refine drw (by kernel_rfl) ?_ | refine chk (by kernel_rfl) ?_ | refine stop ?_)
  all_goals refine Stop.mk ?_
  refine call_fn [1] (r18put_fn _ (pU f.args ++ pU f.regs) f.blocks.length (by simp only [List.length_append]; omega)) rfl ⟨rfl, trivial⟩ (by decide) ?_
  rintro sv H' G' ⟨rfl, rfl, rfl⟩ -
  refine ⟨Nat.le_of_ble_eq_true rfl, ?_⟩
  rw [pU_nat2 _ (by omega)]
  repeat' ((fail_if_success with_reducible refine Stop.mk ?_); (conv => whnf); with_reducible first | refine br_t ?_ | refine br_f ?_ | refine br_nn ?_ | refine br_ns ?_ | refine br_not ?_ | refine br_d (fun h => ?_) (fun h => ?_) | refine br_e (fun h => ?_) (fun h => ?_) | refine br_n (fun h => ?_) (fun h => ?_) | refine drw (by kernel_rfl) ?_ | refine chk (by kernel_rfl) ?_ | refine stop ?_)
  all_goals refine Stop.mk ?_
  generalize hV : pU f.args ++ pU f.regs ++ putB f.blocks.length = V at *
  have hVl : V.length ≤ 40 := by rw [← hV]; simp only [List.length_append]; omega
  refine loop_vars follows [(1, (.cons 0 [] (.cons 1 [] (.cons 3 [] (.cons 4 [] (.cons 6 [] (.cons 7 [] (.cons 8 [] (.cons 2 [1] (.cons 5 [1, 4] (.cons 9 [1, 4, 7] (.cons 10 [] .nil))))))))))))] (α := Nat × Gh) (fun x => [(3, .s 1), (4, .v (.int .i64 x.1)), (16, .dead)]) (fun x => [.cells 33 [.v (.int .i64 f.args), .v (.int .i64 f.regs), .v (.slice A f.blocks.length c)], .row 5 1 (V ++ wBs (f.blocks.take x.1)).length (byts (V ++ wBs (f.blocks.take x.1)))]) (fun x => x.2)
    (fun x => x.1 ≤ f.blocks.length ∧ kBlk.S x.2 A c f.blocks) (fun x => f.blocks.length - x.1) (0, _)
    ⟨Nat.zero_le _, hl⟩ (by simp [wBs]) rfl ?_ ?_
  ·
    refine ⟨?_⟩
    (conv => whnf)
    (repeat' (first | exact trivial | exact .inl rfl | exact .inr rfl | refine And.intro ?_ ?_))
  clear hl
  rintro ⟨k, Gk⟩ ⟨hk, hl⟩
  dsimp only at hk hl ⊢
  have hw2 : IntKind.i64.wrap ((k : Int) + 1) = ((k + 1 : Nat) : Int) := by rw [i64_in (by omega) (by omega)]; simp
  have hstep := flat_take encB f.blocks k
  have hmono := flat_mono encB f.blocks (k + 1)
  have hmono0 := flat_mono encB f.blocks k
  have hlen : (V ++ wBs (f.blocks.take k)).length ≤ 500040 := by unfold wBs at hsz ⊢; rw [List.length_append]; omega
  repeat' ((fail_if_success with_reducible refine Stop.mk ?_); (conv => whnf); with_reducible first | refine br_t ?_ | refine br_f ?_ | refine br_nn ?_ | refine br_ns ?_ | refine br_not ?_ | refine br_d (fun h => ?_) (fun h => ?_) | refine br_e (fun h => ?_) (fun h => ?_) | refine br_n (fun h => ?_) (fun h => ?_) | refine drw (by kernel_rfl) ?_ | refine chk (by kernel_rfl) ?_ | refine stop ?_)
  all_goals refine Stop.mk ?_
  ·
    obtain ⟨_, hs_, hat_⟩ := hl.at (sz := 5) rfl
    refine ⟨⟨by omega, by omega⟩, _, hs_, fun ad had => ?_⟩
    obtain ⟨b, cells, hb, hRb, hGb⟩ := hat_ k (by omega) ad (by first | exact had | (rw [Int.toNat_natCast] at had; exact had))
    clear had hat_ hs_
    obtain ⟨A', c', rfl, hS, hbt⟩ := hRb
    replace hstep := hstep b hb
    have hcap2 := hS.cap
    have hbe : (putB b.code.length).length + (encCode b.code).length + (putTrmB b.term).length ≤ (encB b).length := by unfold encB; simp only [List.length_append]; omega
    have hfull : (wBs (f.blocks.take k)).length + (encB b).length ≤ 500000 := by
      have := hmono
      rw [hstep, List.length_append] at this
      unfold wBs at hsz ⊢; omega
    have hcl : b.code.length ≤ 1000000 := by
      have h9 : ∀ l : List Ins, l.length ≤ (encCode l).length := fun l => by
        have := encL_len (enc := fun (_ : Unit) => putInsB) (nx := nxU) 1 (fun _ x => (putInsB_len x).1) () l
        unfold encCode; omega
      have := h9 b.code
      omega
    repeat' ((fail_if_success with_reducible refine Stop.mk ?_); (conv => whnf); with_reducible first | refine br_t ?_ | refine br_f ?_ | refine br_nn ?_ | refine br_ns ?_ | refine br_not ?_ | refine br_d (fun h => ?_) (fun h => ?_) | refine br_e (fun h => ?_) (fun h => ?_) | refine br_n (fun h => ?_) (fun h => ?_) | refine drw (by kernel_rfl) ?_ | refine chk (by kernel_rfl) ?_ | refine stop ?_)
    all_goals refine Stop.mk ?_
    refine ⟨_, rfl, hGb, ?_⟩
    repeat' ((fail_if_success with_reducible refine Stop.mk ?_); (conv => whnf); with_reducible first | refine br_t ?_ | refine br_f ?_ | refine br_nn ?_ | refine br_ns ?_ | refine br_not ?_ | refine br_d (fun h => ?_) (fun h => ?_) | refine br_e (fun h => ?_) (fun h => ?_) | refine br_n (fun h => ?_) (fun h => ?_) | refine drw (by kernel_rfl) ?_ | refine chk (by kernel_rfl) ?_ | refine stop ?_)
    all_goals refine Stop.mk ?_
    generalize hV2 : V ++ wBs (f.blocks.take k) = V2 at *
    refine call_fn [1] (r18put_fn _ V2 b.code.length (by omega)) rfl ⟨rfl, trivial⟩ (by decide) ?_
    rintro sv H' G' ⟨rfl, rfl, rfl⟩ -
    refine ⟨Nat.le_of_ble_eq_true rfl, ?_⟩
    rw [pU_nat2 _ (by omega)]
    repeat' ((fail_if_success with_reducible refine Stop.mk ?_); (conv => whnf); with_reducible first | refine br_t ?_ | refine br_f ?_ | refine br_nn ?_ | refine br_ns ?_ | refine br_not ?_ | refine br_d (fun h => ?_) (fun h => ?_) | refine br_e (fun h => ?_) (fun h => ?_) | refine br_n (fun h => ?_) (fun h => ?_) | refine drw (by kernel_rfl) ?_ | refine chk (by kernel_rfl) ?_ | refine stop ?_)
    all_goals refine Stop.mk ?_
    generalize hW : V2 ++ putB b.code.length = W at *
    have hWl : W.length + (encCode b.code).length + (putTrmB b.term).length ≤ 500040 := by
      have : V2.length = V.length + (wBs (f.blocks.take k)).length := by rw [← hV2, List.length_append]
      rw [← hW, List.length_append]; omega
    have hcode : encCode b.code = (b.code.map putInsB).flatten := encCode_eq b.code
    refine loop_opq fun K0 hK0 => ?_
    refine loop_vars follows [(1, (.cons 0 [] (.cons 1 [] (.cons 3 [] (.cons 4 [] (.cons 6 [] (.cons 7 [] (.cons 8 [] (.cons 2 [1] (.cons 5 [1, 4] (.cons 9 [1, 4, 7] (.cons 10 [] .nil))))))))))))] (α := Nat × Gh) (fun x => [(3, .s 1), (6, .v (.int .i64 x.1)), (33, .dead)]) (fun x => [.cells 33 [.v (.int .i64 f.args), .v (.int .i64 f.regs), .v (.slice A f.blocks.length c)], .row 5 1 (W ++ ((b.code.take x.1).map putInsB).flatten).length (byts (W ++ ((b.code.take x.1).map putInsB).flatten)), .cells 47 [.v (.slice A' b.code.length c'), .v (.int .i64 b.term.kind), .v (.int .i64 b.term.a), .v (.int .i64 b.term.to_), .v (.int .i64 b.term.els)]]) (fun x => x.2)
      (fun x => x.1 ≤ b.code.length ∧ kBlk.S x.2 A c f.blocks ∧ kIns.S x.2 A' c' b.code) (fun x => b.code.length - x.1) (0, _)
      ⟨Nat.zero_le _, hl, hS⟩ (by simp) rfl ?_ ?_
    ·
      refine ⟨?_⟩
      (conv => whnf)
      (repeat' (first | exact trivial | exact .inl rfl | exact .inr rfl | refine And.intro ?_ ?_))
    clear hl hS
    rintro ⟨j, Gj⟩ ⟨hj, hl, hS⟩
    dsimp only at hj hl hS ⊢
    have hw3 : IntKind.i64.wrap ((j : Int) + 1) = ((j + 1 : Nat) : Int) := by rw [i64_in (by omega) (by omega)]; simp
    have hstep2 := flat_take putInsB b.code j
    have hmono2 := flat_mono putInsB b.code j
    rw [← hcode] at hmono2
    generalize hU : W ++ ((b.code.take j).map putInsB).flatten = U at *
    have hUl : U.length ≤ 500040 := by rw [← hU, List.length_append]; omega
    repeat' ((fail_if_success with_reducible refine Stop.mk ?_); (conv => whnf); with_reducible first | refine br_t ?_ | refine br_f ?_ | refine br_nn ?_ | refine br_ns ?_ | refine br_not ?_ | refine br_d (fun h => ?_) (fun h => ?_) | refine br_e (fun h => ?_) (fun h => ?_) | refine br_n (fun h => ?_) (fun h => ?_) | refine drw (by kernel_rfl) ?_ | refine chk (by kernel_rfl) ?_ | refine stop ?_)
    all_goals refine Stop.mk ?_
    ·
      obtain ⟨_, hs_, hat_⟩ := hS.at (sz := 5) rfl
      refine ⟨⟨by omega, by omega⟩, _, hs_, fun ad had => ?_⟩
      obtain ⟨i, cells, hi, hRi, hGi⟩ := hat_ j (by omega) ad (by first | exact had | (rw [Int.toNat_natCast] at had; exact had))
      clear had hat_ hs_
      obtain ⟨rfl, hiok⟩ := hRi
      have hi18 := hop b (List.mem_of_getElem? hb) i (List.mem_of_getElem? hi)
      have hil := putInsB_len i
      repeat' ((fail_if_success with_reducible refine Stop.mk ?_); (conv => whnf); with_reducible first | refine br_t ?_ | refine br_f ?_ | refine br_nn ?_ | refine br_ns ?_ | refine br_not ?_ | refine br_d (fun h => ?_) (fun h => ?_) | refine br_e (fun h => ?_) (fun h => ?_) | refine br_n (fun h => ?_) (fun h => ?_) | refine drw (by kernel_rfl) ?_ | refine chk (by kernel_rfl) ?_ | refine stop ?_)
      all_goals refine Stop.mk ?_
      refine ⟨_, rfl, hGi, ?_⟩
      repeat' ((fail_if_success with_reducible refine Stop.mk ?_); (conv => whnf); with_reducible first | refine br_t ?_ | refine br_f ?_ | refine br_nn ?_ | refine br_ns ?_ | refine br_not ?_ | refine br_d (fun h => ?_) (fun h => ?_) | refine br_e (fun h => ?_) (fun h => ?_) | refine br_n (fun h => ?_) (fun h => ?_) | refine drw (by kernel_rfl) ?_ | refine chk (by kernel_rfl) ?_ | refine stop ?_)
      all_goals refine Stop.mk ?_
      refine call_fn [] (r17PutInstr_fn _ i hiok hi18) rfl trivial (by decide) ?_
      rintro sv H' G' ⟨rfl, rfl, rfl⟩ -
      refine ⟨Nat.le_of_ble_eq_true rfl, ?_⟩
      repeat' ((fail_if_success with_reducible refine Stop.mk ?_); (conv => whnf); with_reducible first | refine br_t ?_ | refine br_f ?_ | refine br_nn ?_ | refine br_ns ?_ | refine br_not ?_ | refine br_d (fun h => ?_) (fun h => ?_) | refine br_e (fun h => ?_) (fun h => ?_) | refine br_n (fun h => ?_) (fun h => ?_) | refine drw (by kernel_rfl) ?_ | refine chk (by kernel_rfl) ?_ | refine stop ?_)
      all_goals refine Stop.mk ?_
      refine ⟨byts_one _, ⟨by show (U.length + (putInsB i).length) * 1 ≤ _; omega, ?_⟩⟩
      repeat' ((fail_if_success with_reducible refine Stop.mk ?_); (conv => whnf); with_reducible first | refine br_t ?_ | refine br_f ?_ | refine br_nn ?_ | refine br_ns ?_ | refine br_not ?_ | refine br_d (fun h => ?_) (fun h => ?_) | refine br_e (fun h => ?_) (fun h => ?_) | refine br_n (fun h => ?_) (fun h => ?_) | refine drw (by kernel_rfl) ?_ | refine chk (by kernel_rfl) ?_ | refine stop ?_)
      all_goals refine Stop.mk ?_
      rw [hw3]
      refine tell_gc hE [0, 1, 2] rfl rfl ?_
      (conv => whnf)
      refine tell_here ⟨(j + 1, _), ⟨by show j + 1 ≤ _; omega, hl, hS⟩, by show b.code.length - (j + 1) < b.code.length - j; omega, ?_, rfl, ?_⟩
      · dsimp only
        rw [hstep2 i hi, ← List.append_assoc, hU]
        simp only [List.length_append, byts_app]
        rfl
      ·
        refine ⟨?_⟩
        (conv => whnf)
        (repeat' (first | exact trivial | exact .inl rfl | exact .inr rfl | refine And.intro ?_ ?_))
    · have hjl : j = b.code.length := by omega
      subst hjl
      refine Stop.mk (hK0 _ _ ?_)
      clear hK0
      repeat' ((fail_if_success with_reducible refine Stop.mk ?_); (conv => whnf); with_reducible first | refine br_t ?_ | refine br_f ?_ | refine br_nn ?_ | refine br_ns ?_ | refine br_not ?_ | refine br_d (fun h => ?_) (fun h => ?_) | refine br_e (fun h => ?_) (fun h => ?_) | refine br_n (fun h => ?_) (fun h => ?_) | refine drw (by kernel_rfl) ?_ | refine chk (by kernel_rfl) ?_ | refine stop ?_)
      all_goals refine Stop.mk ?_
      refine call_fn [] (r17PutTerm_fn _ b.term) rfl trivial (by decide) ?_
      rintro sv H' G' ⟨rfl, rfl, rfl⟩ -
      refine ⟨Nat.le_of_ble_eq_true rfl, ?_⟩
      have htl := putTrmB_len b.term
      repeat' ((fail_if_success with_reducible refine Stop.mk ?_); (conv => whnf); with_reducible first | refine br_t ?_ | refine br_f ?_ | refine br_nn ?_ | refine br_ns ?_ | refine br_not ?_ | refine br_d (fun h => ?_) (fun h => ?_) | refine br_e (fun h => ?_) (fun h => ?_) | refine br_n (fun h => ?_) (fun h => ?_) | refine drw (by kernel_rfl) ?_ | refine chk (by kernel_rfl) ?_ | refine stop ?_)
      all_goals refine Stop.mk ?_
      refine ⟨byts_one _, ⟨by show (U.length + (putTrmB b.term).length) * 1 ≤ _; omega, ?_⟩⟩
      repeat' ((fail_if_success with_reducible refine Stop.mk ?_); (conv => whnf); with_reducible first | refine br_t ?_ | refine br_f ?_ | refine br_nn ?_ | refine br_ns ?_ | refine br_not ?_ | refine br_d (fun h => ?_) (fun h => ?_) | refine br_e (fun h => ?_) (fun h => ?_) | refine br_n (fun h => ?_) (fun h => ?_) | refine drw (by kernel_rfl) ?_ | refine chk (by kernel_rfl) ?_ | refine stop ?_)
      all_goals refine Stop.mk ?_
      rw [hw2]
      refine tell_gc hE [0, 1] rfl rfl ?_
      (conv => whnf)
      refine tell_here ⟨(k + 1, _), ⟨by show k + 1 ≤ _; omega, hl⟩, by show f.blocks.length - (k + 1) < f.blocks.length - k; omega, ?_, rfl, ?_⟩
      · dsimp only
        have e : V ++ wBs (f.blocks.take (k + 1)) = U ++ putTrmB b.term := by
          rw [← hU, ← hW, ← hV2, List.take_length, ← hcode]
          unfold wBs encB at *
          rw [hstep]
          simp only [List.append_assoc]
        rw [e]
        simp only [List.length_append, byts_app]
        rfl
      ·
        refine ⟨?_⟩
        (conv => whnf)
        (repeat' (first | exact trivial | exact .inl rfl | exact .inr rfl | refine And.intro ?_ ?_))
  · have hkl : k = f.blocks.length := by omega
    subst hkl
    rw [List.take_length]
    have e : V ++ wBs f.blocks = wFn f := by rw [← hV]; unfold wFn; simp only [List.append_assoc]
    rw [e]
    exact fin_mk hE [1] (.s 0) [rowB (wFn f)] rfl ⟨rfl, trivial⟩ rfl ⟨rfl, rfl⟩
theorem frzD {P : Program} {f : FuncId} {args : List SV} {G : Gh} {l : List Int} (h : Ct P f args [] G fun sv H' G' => sv = .s 0 ∧ H' = [rowB l]) :
    Ct P f args [] G fun sv H' G' => (∃ A c, sv = .v (.slice A l.length c) ∧ SlB G' A c l) ∧ H' = [] :=
  h.fin fun E sv H' G' hE hp => by
    obtain ⟨rfl, rfl⟩ := hp
    exact fin_done 0 rfl (byts_one _) fun A c G2 hg hs => fin_id hE 0 rfl rfl rfl rfl ⟨⟨A, c, rfl, hs⟩, rfl⟩
theorem rputFunc_fn (G : Gh) (A : Option Addr) (c : Nat) (f : Fn) (hl : kBlk.S G A c f.blocks) (hsz : (wBs f.blocks).length ≤ 500000) (hbl : f.blocks.length ≤ 1000000) (hop : opsB f.blocks) :
    Ct Try.prog 39 [fnS A c f] [] G fun sv H' G' => (∃ A c, sv = .v (.slice A (wFn f).length c) ∧ SlB G' A c (wFn f)) ∧ H' = [] :=
  frzD (rputFuncO_fn G A c f hl hsz hbl hop)
set_option maxHeartbeats 8000000 in
theorem rputMFunc_fn (G : Gh) (A : Option Addr) (c : Nat) (f : MFn) (hl : kMBlk.S G A c f.blocks) (hsz : (wMBs f.blocks).length ≤ 500000) (hbl : f.blocks.length ≤ 1000000) :
    Ct Try.prog 40 [mfnS A c f] [] G fun sv H' G' => (∃ A c, sv = .v (.slice A (wMFn f).length c) ∧ SlB G' A c (wMFn f)) ∧ H' = [] := by
  refine fn_of follows [(1, (.cons 0 [] (.cons 1 [] (.cons 3 [] (.cons 4 [] (.cons 6 [] (.cons 7 [] (.cons 9 [] (.cons 10 [] (.cons 11 [] (.cons 2 [1] (.cons 5 [1, 4] (.cons 8 [1, 4, 7] (.cons 12 [1, 4, 7, 10] (.cons 13 [] .nil)))))))))))))))] Try.func40 rfl rfl fun E hE => ?_
  have hcap := hl.cap
  have ha := pU_len f.args
  have hr := pU_len f.regs
  have hsl := pU_len f.slots
  have hbn := putB_len f.blocks.length
  unfold mfnS
  repeat' ((fail_if_success with_reducible refine Stop.mk ?_); (conv => whnf); with_reducible first | refine br_t ?_ | refine br_f ?_ | refine br_nn ?_ | refine br_ns ?_ | refine br_not ?_ | refine br_d (fun h => ?_) (fun h => ?_) | refine br_e (fun h => ?_) (fun h => ?_) | refine br_n (fun h => ?_) (fun h => ?_) | refine drw (by kernel_rfl) ?_ | refine chk (by kernel_rfl) ?_ | refine stop ?_)
  all_goals refine Stop.mk ?_
  refine call_fn [] (r18put0_fn _ f.args) rfl trivial (by decide) ?_
  rintro sv H' G' ⟨rfl, rfl, rfl⟩ -
  refine ⟨Nat.le_of_ble_eq_true rfl, ?_⟩
  repeat' ((fail_if_success with_reducible refine Stop.mk ?_); (conv => whnf); with_reducible first | refine br_t ?_ | refine br_f ?_ | refine br_nn ?_ | refine br_ns ?_ | refine br_not ?_ | refine br_d (fun h => ?_) (fun h => ?_) | refine br_e (fun h => ?_) (fun h => ?_) | refine br_n (fun h => ?_) (fun h => ?_) | refine drw (by kernel_rfl) ?_ | refine chk (by kernel_rfl) ?_ | refine stop ?_)
  all_goals refine Stop.mk ?_
  refine call_fn [1] (r18put_fn _ (pU f.args) f.regs (by omega)) rfl ⟨rfl, trivial⟩ (by decide) ?_
  rintro sv H' G' ⟨rfl, rfl, rfl⟩ -
  refine ⟨Nat.le_of_ble_eq_true rfl, ?_⟩
  repeat' ((fail_if_success with_reducible refine Stop.mk ?_); (conv => whnf); with_reducible first | refine br_t ?_ | refine br_f ?_ | refine br_nn ?_ | refine br_ns ?_ | refine br_not ?_ | refine br_d (fun h => ?_) (fun h => ?_) | refine br_e (fun h => ?_) (fun h => ?_) | refine br_n (fun h => ?_) (fun h => ?_) | refine drw (by kernel_rfl) ?_ | refine chk (by kernel_rfl) ?_ | refine stop ?_)
  all_goals refine Stop.mk ?_
  refine call_fn [1] (r18put_fn _ (pU f.args ++ pU f.regs) f.slots (by simp only [List.length_append]; omega)) rfl ⟨rfl, trivial⟩ (by decide) ?_
  rintro sv H' G' ⟨rfl, rfl, rfl⟩ -
  refine ⟨Nat.le_of_ble_eq_true rfl, ?_⟩
  repeat' ((fail_if_success with_reducible refine Stop.mk ?_); (conv => whnf); with_reducible first | refine br_t ?_ | refine br_f ?_ | refine br_nn ?_ | refine br_ns ?_ | refine br_not ?_ | refine br_d (fun h => ?_) (fun h => ?_) | refine br_e (fun h => ?_) (fun h => ?_) | refine br_n (fun h => ?_) (fun h => ?_) | refine drw (by kernel_rfl) ?_ | refine chk (by kernel_rfl) ?_ | refine stop ?_)
  all_goals refine Stop.mk ?_
  refine call_fn [1] (r18put_fn _ (pU f.args ++ pU f.regs ++ pU f.slots) f.blocks.length (by simp only [List.length_append]; omega)) rfl ⟨rfl, trivial⟩ (by decide) ?_
  rintro sv H' G' ⟨rfl, rfl, rfl⟩ -
  refine ⟨Nat.le_of_ble_eq_true rfl, ?_⟩
  rw [pU_nat2 _ (by omega)]
  repeat' ((fail_if_success with_reducible refine Stop.mk ?_); (conv => whnf); with_reducible first | refine br_t ?_ | refine br_f ?_ | refine br_nn ?_ | refine br_ns ?_ | refine br_not ?_ | refine br_d (fun h => ?_) (fun h => ?_) | refine br_e (fun h => ?_) (fun h => ?_) | refine br_n (fun h => ?_) (fun h => ?_) | refine drw (by kernel_rfl) ?_ | refine chk (by kernel_rfl) ?_ | refine stop ?_)
  all_goals refine Stop.mk ?_
  generalize hV : pU f.args ++ pU f.regs ++ pU f.slots ++ putB f.blocks.length = V at *
  have hVl : V.length ≤ 60 := by rw [← hV]; simp only [List.length_append]; omega
  refine loop_vars follows [(1, (.cons 0 [] (.cons 1 [] (.cons 3 [] (.cons 4 [] (.cons 6 [] (.cons 7 [] (.cons 9 [] (.cons 10 [] (.cons 11 [] (.cons 2 [1] (.cons 5 [1, 4] (.cons 8 [1, 4, 7] (.cons 12 [1, 4, 7, 10] (.cons 13 [] .nil)))))))))))))))] (α := Nat × Gh) (fun x => [(3, .s 1), (4, .v (.int .i64 x.1)), (19, .dead)]) (fun x => [.cells 36 [.v (.int .i64 f.args), .v (.int .i64 f.regs), .v (.int .i64 f.slots), .v (.slice A f.blocks.length c)], .row 5 1 (V ++ wMBs (f.blocks.take x.1)).length (byts (V ++ wMBs (f.blocks.take x.1)))]) (fun x => x.2)
    (fun x => x.1 ≤ f.blocks.length ∧ kMBlk.S x.2 A c f.blocks) (fun x => f.blocks.length - x.1) (0, _)
    ⟨Nat.zero_le _, hl⟩ (by simp [wMBs]) rfl ?_ ?_
  ·
    refine ⟨?_⟩
    (conv => whnf)
    (repeat' (first | exact trivial | exact .inl rfl | exact .inr rfl | refine And.intro ?_ ?_))
  clear hl
  rintro ⟨k, Gk⟩ ⟨hk, hl⟩
  dsimp only at hk hl ⊢
  have hw2 : IntKind.i64.wrap ((k : Int) + 1) = ((k + 1 : Nat) : Int) := by rw [i64_in (by omega) (by omega)]; simp
  have hstep := flat_take encMB f.blocks k
  have hmono := flat_mono encMB f.blocks (k + 1)
  have hmono0 := flat_mono encMB f.blocks k
  have hlen : (V ++ wMBs (f.blocks.take k)).length ≤ 500060 := by unfold wMBs at hsz ⊢; rw [List.length_append]; omega
  repeat' ((fail_if_success with_reducible refine Stop.mk ?_); (conv => whnf); with_reducible first | refine br_t ?_ | refine br_f ?_ | refine br_nn ?_ | refine br_ns ?_ | refine br_not ?_ | refine br_d (fun h => ?_) (fun h => ?_) | refine br_e (fun h => ?_) (fun h => ?_) | refine br_n (fun h => ?_) (fun h => ?_) | refine drw (by kernel_rfl) ?_ | refine chk (by kernel_rfl) ?_ | refine stop ?_)
  all_goals refine Stop.mk ?_
  ·
    obtain ⟨_, hs_, hat_⟩ := hl.at (sz := 5) rfl
    refine ⟨⟨by omega, by omega⟩, _, hs_, fun ad had => ?_⟩
    obtain ⟨b, cells, hb, hRb, hGb⟩ := hat_ k (by omega) ad (by first | exact had | (rw [Int.toNat_natCast] at had; exact had))
    clear had hat_ hs_
    obtain ⟨A', c', rfl, hS, hbt⟩ := hRb
    replace hstep := hstep b hb
    have hcap2 := hS.cap
    have hbe : (putB b.code.length).length + (encMCode b.code).length + (putTrmB b.term).length ≤ (encMB b).length := by unfold encMB; simp only [List.length_append]; omega
    have hfull : (wMBs (f.blocks.take k)).length + (encMB b).length ≤ 500000 := by
      have := hmono
      rw [hstep, List.length_append] at this
      unfold wMBs at hsz ⊢; omega
    have hcl : b.code.length ≤ 1000000 := by
      have h9 : ∀ l : List Mac, l.length ≤ (encMCode l).length := fun l => by
        have := encL_len (enc := fun (_ : Int) => putMacB) (nx := nxR) 1 (fun _ x => (putMacB_len x).1) 0 l
        unfold encMCode; omega
      have := h9 b.code
      omega
    repeat' ((fail_if_success with_reducible refine Stop.mk ?_); (conv => whnf); with_reducible first | refine br_t ?_ | refine br_f ?_ | refine br_nn ?_ | refine br_ns ?_ | refine br_not ?_ | refine br_d (fun h => ?_) (fun h => ?_) | refine br_e (fun h => ?_) (fun h => ?_) | refine br_n (fun h => ?_) (fun h => ?_) | refine drw (by kernel_rfl) ?_ | refine chk (by kernel_rfl) ?_ | refine stop ?_)
    all_goals refine Stop.mk ?_
    refine ⟨_, rfl, hGb, ?_⟩
    repeat' ((fail_if_success with_reducible refine Stop.mk ?_); (conv => whnf); with_reducible first | refine br_t ?_ | refine br_f ?_ | refine br_nn ?_ | refine br_ns ?_ | refine br_not ?_ | refine br_d (fun h => ?_) (fun h => ?_) | refine br_e (fun h => ?_) (fun h => ?_) | refine br_n (fun h => ?_) (fun h => ?_) | refine drw (by kernel_rfl) ?_ | refine chk (by kernel_rfl) ?_ | refine stop ?_)
    all_goals refine Stop.mk ?_
    generalize hV2 : V ++ wMBs (f.blocks.take k) = V2 at *
    refine call_fn [1] (r18put_fn _ V2 b.code.length (by omega)) rfl ⟨rfl, trivial⟩ (by decide) ?_
    rintro sv H' G' ⟨rfl, rfl, rfl⟩ -
    refine ⟨Nat.le_of_ble_eq_true rfl, ?_⟩
    rw [pU_nat2 _ (by omega)]
    repeat' ((fail_if_success with_reducible refine Stop.mk ?_); (conv => whnf); with_reducible first | refine br_t ?_ | refine br_f ?_ | refine br_nn ?_ | refine br_ns ?_ | refine br_not ?_ | refine br_d (fun h => ?_) (fun h => ?_) | refine br_e (fun h => ?_) (fun h => ?_) | refine br_n (fun h => ?_) (fun h => ?_) | refine drw (by kernel_rfl) ?_ | refine chk (by kernel_rfl) ?_ | refine stop ?_)
    all_goals refine Stop.mk ?_
    generalize hW : V2 ++ putB b.code.length = W at *
    have hWl : W.length + (encMCode b.code).length + (putTrmB b.term).length ≤ 500060 := by
      have : V2.length = V.length + (wMBs (f.blocks.take k)).length := by rw [← hV2, List.length_append]
      rw [← hW, List.length_append]; omega
    have hcode : encMCode b.code = (b.code.map putMacB).flatten := encMCode_eq b.code
    refine loop_opq fun K0 hK0 => ?_
    refine loop_vars follows [(1, (.cons 0 [] (.cons 1 [] (.cons 3 [] (.cons 4 [] (.cons 6 [] (.cons 7 [] (.cons 9 [] (.cons 10 [] (.cons 11 [] (.cons 2 [1] (.cons 5 [1, 4] (.cons 8 [1, 4, 7] (.cons 12 [1, 4, 7, 10] (.cons 13 [] .nil)))))))))))))))] (α := Nat × Gh) (fun x => [(3, .s 1), (6, .v (.int .i64 x.1)), (36, .dead)]) (fun x => [.cells 36 [.v (.int .i64 f.args), .v (.int .i64 f.regs), .v (.int .i64 f.slots), .v (.slice A f.blocks.length c)], .row 5 1 (W ++ ((b.code.take x.1).map putMacB).flatten).length (byts (W ++ ((b.code.take x.1).map putMacB).flatten)), .cells 50 [.v (.slice A' b.code.length c'), .v (.int .i64 b.term.kind), .v (.int .i64 b.term.a), .v (.int .i64 b.term.to_), .v (.int .i64 b.term.els)]]) (fun x => x.2)
      (fun x => x.1 ≤ b.code.length ∧ kMBlk.S x.2 A c f.blocks ∧ kMac.S x.2 A' c' b.code) (fun x => b.code.length - x.1) (0, _)
      ⟨Nat.zero_le _, hl, hS⟩ (by simp) rfl ?_ ?_
    ·
      refine ⟨?_⟩
      (conv => whnf)
      (repeat' (first | exact trivial | exact .inl rfl | exact .inr rfl | refine And.intro ?_ ?_))
    clear hl hS
    rintro ⟨j, Gj⟩ ⟨hj, hl, hS⟩
    dsimp only at hj hl hS ⊢
    have hw3 : IntKind.i64.wrap ((j : Int) + 1) = ((j + 1 : Nat) : Int) := by rw [i64_in (by omega) (by omega)]; simp
    have hstep2 := flat_take putMacB b.code j
    have hmono2 := flat_mono putMacB b.code j
    rw [← hcode] at hmono2
    generalize hU : W ++ ((b.code.take j).map putMacB).flatten = U at *
    have hUl : U.length ≤ 500060 := by rw [← hU, List.length_append]; omega
    repeat' ((fail_if_success with_reducible refine Stop.mk ?_); (conv => whnf); with_reducible first | refine br_t ?_ | refine br_f ?_ | refine br_nn ?_ | refine br_ns ?_ | refine br_not ?_ | refine br_d (fun h => ?_) (fun h => ?_) | refine br_e (fun h => ?_) (fun h => ?_) | refine br_n (fun h => ?_) (fun h => ?_) | refine drw (by kernel_rfl) ?_ | refine chk (by kernel_rfl) ?_ | refine stop ?_)
    all_goals refine Stop.mk ?_
    ·
      obtain ⟨_, hs_, hat_⟩ := hS.at (sz := 7) rfl
      refine ⟨⟨by omega, by omega⟩, _, hs_, fun ad had => ?_⟩
      obtain ⟨i, cells, hi, hRi, hGi⟩ := hat_ j (by omega) ad (by first | exact had | (rw [Int.toNat_natCast] at had; exact had))
      clear had hat_ hs_
      obtain ⟨rfl, hiok⟩ := hRi
      have hil := putMacB_len i
      repeat' ((fail_if_success with_reducible refine Stop.mk ?_); (conv => whnf); with_reducible first | refine br_t ?_ | refine br_f ?_ | refine br_nn ?_ | refine br_ns ?_ | refine br_not ?_ | refine br_d (fun h => ?_) (fun h => ?_) | refine br_e (fun h => ?_) (fun h => ?_) | refine br_n (fun h => ?_) (fun h => ?_) | refine drw (by kernel_rfl) ?_ | refine chk (by kernel_rfl) ?_ | refine stop ?_)
      all_goals refine Stop.mk ?_
      refine ⟨_, rfl, hGi, ?_⟩
      repeat' ((fail_if_success with_reducible refine Stop.mk ?_); (conv => whnf); with_reducible first | refine br_t ?_ | refine br_f ?_ | refine br_nn ?_ | refine br_ns ?_ | refine br_not ?_ | refine br_d (fun h => ?_) (fun h => ?_) | refine br_e (fun h => ?_) (fun h => ?_) | refine br_n (fun h => ?_) (fun h => ?_) | refine drw (by kernel_rfl) ?_ | refine chk (by kernel_rfl) ?_ | refine stop ?_)
      all_goals refine Stop.mk ?_
      refine call_fn [] (r17Put_fn _ i hiok) rfl trivial (by decide) ?_
      rintro sv H' G' ⟨rfl, rfl, rfl⟩ -
      refine ⟨Nat.le_of_ble_eq_true rfl, ?_⟩
      repeat' ((fail_if_success with_reducible refine Stop.mk ?_); (conv => whnf); with_reducible first | refine br_t ?_ | refine br_f ?_ | refine br_nn ?_ | refine br_ns ?_ | refine br_not ?_ | refine br_d (fun h => ?_) (fun h => ?_) | refine br_e (fun h => ?_) (fun h => ?_) | refine br_n (fun h => ?_) (fun h => ?_) | refine drw (by kernel_rfl) ?_ | refine chk (by kernel_rfl) ?_ | refine stop ?_)
      all_goals refine Stop.mk ?_
      refine ⟨byts_one _, ⟨by show (U.length + (putMacB i).length) * 1 ≤ _; omega, ?_⟩⟩
      repeat' ((fail_if_success with_reducible refine Stop.mk ?_); (conv => whnf); with_reducible first | refine br_t ?_ | refine br_f ?_ | refine br_nn ?_ | refine br_ns ?_ | refine br_not ?_ | refine br_d (fun h => ?_) (fun h => ?_) | refine br_e (fun h => ?_) (fun h => ?_) | refine br_n (fun h => ?_) (fun h => ?_) | refine drw (by kernel_rfl) ?_ | refine chk (by kernel_rfl) ?_ | refine stop ?_)
      all_goals refine Stop.mk ?_
      rw [hw3]
      refine tell_gc hE [0, 1, 2] rfl rfl ?_
      (conv => whnf)
      refine tell_here ⟨(j + 1, _), ⟨by show j + 1 ≤ _; omega, hl, hS⟩, by show b.code.length - (j + 1) < b.code.length - j; omega, ?_, rfl, ?_⟩
      · dsimp only
        rw [hstep2 i hi, ← List.append_assoc, hU]
        simp only [List.length_append, byts_app]
        rfl
      ·
        refine ⟨?_⟩
        (conv => whnf)
        (repeat' (first | exact trivial | exact .inl rfl | exact .inr rfl | refine And.intro ?_ ?_))
    · have hjl : j = b.code.length := by omega
      subst hjl
      refine Stop.mk (hK0 _ _ ?_)
      clear hK0
      repeat' ((fail_if_success with_reducible refine Stop.mk ?_); (conv => whnf); with_reducible first | refine br_t ?_ | refine br_f ?_ | refine br_nn ?_ | refine br_ns ?_ | refine br_not ?_ | refine br_d (fun h => ?_) (fun h => ?_) | refine br_e (fun h => ?_) (fun h => ?_) | refine br_n (fun h => ?_) (fun h => ?_) | refine drw (by kernel_rfl) ?_ | refine chk (by kernel_rfl) ?_ | refine stop ?_)
      all_goals refine Stop.mk ?_
      refine call_fn [] (r17PutTerm_fn _ b.term) rfl trivial (by decide) ?_
      rintro sv H' G' ⟨rfl, rfl, rfl⟩ -
      refine ⟨Nat.le_of_ble_eq_true rfl, ?_⟩
      have htl := putTrmB_len b.term
      repeat' ((fail_if_success with_reducible refine Stop.mk ?_); (conv => whnf); with_reducible first | refine br_t ?_ | refine br_f ?_ | refine br_nn ?_ | refine br_ns ?_ | refine br_not ?_ | refine br_d (fun h => ?_) (fun h => ?_) | refine br_e (fun h => ?_) (fun h => ?_) | refine br_n (fun h => ?_) (fun h => ?_) | refine drw (by kernel_rfl) ?_ | refine chk (by kernel_rfl) ?_ | refine stop ?_)
      all_goals refine Stop.mk ?_
      refine ⟨byts_one _, ⟨by show (U.length + (putTrmB b.term).length) * 1 ≤ _; omega, ?_⟩⟩
      repeat' ((fail_if_success with_reducible refine Stop.mk ?_); (conv => whnf); with_reducible first | refine br_t ?_ | refine br_f ?_ | refine br_nn ?_ | refine br_ns ?_ | refine br_not ?_ | refine br_d (fun h => ?_) (fun h => ?_) | refine br_e (fun h => ?_) (fun h => ?_) | refine br_n (fun h => ?_) (fun h => ?_) | refine drw (by kernel_rfl) ?_ | refine chk (by kernel_rfl) ?_ | refine stop ?_)
      all_goals refine Stop.mk ?_
      rw [hw2]
      refine tell_gc hE [0, 1] rfl rfl ?_
      (conv => whnf)
      refine tell_here ⟨(k + 1, _), ⟨by show k + 1 ≤ _; omega, hl⟩, by show f.blocks.length - (k + 1) < f.blocks.length - k; omega, ?_, rfl, ?_⟩
      · dsimp only
        have e : V ++ wMBs (f.blocks.take (k + 1)) = U ++ putTrmB b.term := by
          rw [← hU, ← hW, ← hV2, List.take_length, ← hcode]
          unfold wMBs encMB at *
          rw [hstep]
          simp only [List.append_assoc]
        rw [e]
        simp only [List.length_append, byts_app]
        rfl
      ·
        refine ⟨?_⟩
        (conv => whnf)
        (repeat' (first | exact trivial | exact .inl rfl | exact .inr rfl | refine And.intro ?_ ?_))
  · have hkl : k = f.blocks.length := by omega
    subst hkl
    rw [List.take_length]
    refine fin_done 1 rfl (byts_one _) fun A2 c2 G2 hg hs => fin_id hE 0 rfl rfl rfl rfl ⟨⟨A2, c2, ?_, ?_⟩, rfl⟩
    · have e : wMFn f = V ++ wMBs f.blocks := by rw [← hV]; unfold wMFn; simp only [List.append_assoc]
      rw [e]
      rfl
    · have e : wMFn f = V ++ wMBs f.blocks := by rw [← hV]; unfold wMFn; simp only [List.append_assoc]
      rw [e]
      exact hs
end Go.Proofs.Ytkhajngpcgmpnaa.Cu

namespace Go.Proofs.Ytkhajngpcgmpnaa.Cu
open Go Go.SX Go.Proofs.Ytkhajngpcgmpnaa.VT
set_option maxRecDepth 100000
set_option linter.unusedVariables false
set_option linter.unusedSimpArgs false

theorem okCode_iff (regs : Int) : ∀ (l : List Ins), okCode regs l ↔ ∀ i ∈ l, okIns regs i
  | [] => by simp [okCode, okL]
  | i :: l => by
    have := okCode_iff regs l
    unfold okCode at this ⊢
    simp only [okL, List.mem_cons, forall_eq_or_imp]
    rw [show okL (fun _ => okIns regs) nxU (nxU () i) l ↔ ∀ i ∈ l, okIns regs i from this]
theorem okBs_iff (regs n : Int) : ∀ (l : List Blk) (t : Int), 0 ≤ t → (okL (okB regs n) nxB t l ↔ ((l = [] ∨ t + totB l ≤ 1048576) ∧ ∀ b ∈ l, okCode regs b.code ∧ okTrm regs n b.term))
  | [], t, _ => by simp [okL]
  | x :: l, t, ht => by
    have h := okBs_iff regs n l (nxB t x) (by unfold nxB; omega)
    simp only [okL, totB]
    rw [h]
    unfold okB nxB
    constructor
    · rintro ⟨⟨h1, h2, h2'⟩, h3, h4⟩
      refine ⟨.inr ?_, ?_⟩
      · rcases h3 with rfl | h3
        · simp [totB]; omega
        · push_cast; omega
      · intro y hy
        rcases List.mem_cons.1 hy with rfl | hy
        · exact ⟨h2, h2'⟩
        · exact h4 y hy
    · rintro ⟨h1, h2⟩
      have h1' : t + ((x.code.length + totB l : Nat) : Int) ≤ 1048576 := by
        rcases h1 with h1 | h1
        · simp at h1
        · exact h1
      have h3 := h2 x (by simp)
      exact ⟨⟨by omega, h3.1, h3.2⟩, .inr (by omega), fun y hy => h2 y (by simp [hy])⟩
theorem okFn_iff (f : Fn) : okFn f ↔ (0 ≤ f.args ∧ f.args ≤ f.regs) ∧ f.regs ≤ 1048576 ∧ f.blocks.length ≠ 0 ∧ f.blocks.length ≤ 1048576 ∧ totB f.blocks ≤ 1048576 ∧ ∀ b ∈ f.blocks, (∀ i ∈ b.code, okIns f.regs i) ∧ okTrm f.regs f.blocks.length b.term := by
  unfold okFn
  rw [okBs_iff _ _ _ 0 (Int.le_refl _)]
  constructor
  · rintro ⟨⟨h1, h2⟩, ⟨h3, h4⟩, h5, h6⟩
    refine ⟨h1, h2, h3, h4, ?_, fun b hb => ⟨(okCode_iff _ _).1 (h6 b hb).1, (h6 b hb).2⟩⟩
    rcases h5 with h5 | h5
    · rw [h5] at h3; exact absurd rfl h3
    · omega
  · rintro ⟨h1, h2, h3, h4, h5, h6⟩
    exact ⟨⟨h1, h2⟩, ⟨h3, h4⟩, .inr (by omega), fun b hb => ⟨(okCode_iff _ _).2 (h6 b hb).1, (h6 b hb).2⟩⟩
set_option maxHeartbeats 8000000 in
theorem check7_fn (G : Gh) (A : Option Addr) (c : Nat) (f : Fn) (hl : kBlk.S G A c f.blocks) (hbl : f.blocks.length ≤ 1000000000) (htl : totB f.blocks ≤ 1000000000) :
    Ct Try.prog 65 [fnS A c f] [] G fun sv H' G' => ∃ e : Int, sv = .v (.int .i64 e) ∧ (e = 0 ↔ okFn f) ∧ H' = [] ∧ G' = G := by
  refine fn_of follows [(16, (.cons 0 [] (.cons 1 [] (.cons 2 [] (.cons 3 [] (.cons 4 [] (.cons 5 [] (.cons 6 [] (.cons 7 [1, 4, 6] (.cons 8 [] .nil))))))))))] Try.func65 rfl rfl fun E hE => ?_
  have hcap := hl.cap
  rw [okFn_iff]
  unfold fnS
  repeat' ((fail_if_success with_reducible refine Stop.mk ?_); (conv => whnf); with_reducible first | refine br_t ?_ | refine br_f ?_ | refine br_nn ?_ | refine br_ns ?_ | refine br_not ?_ | refine br_d (fun h => ?_) (fun h => ?_) | refine br_e (fun h => ?_) (fun h => ?_) | refine br_n (fun h => ?_) (fun h => ?_) | refine drw (by kernel_rfl) ?_ | refine chk (by kernel_rfl) ?_ | refine stop ?_)
  all_goals refine Stop.mk ?_
  all_goals try
    refine call_fn [] (code7_fn _ A c f hl hbl htl) rfl trivial (by decide) ?_
    rintro sv H' G' ⟨rfl, rfl, rfl⟩ -
    refine ⟨Nat.le_of_ble_eq_true rfl, ?_⟩
    repeat' ((fail_if_success with_reducible refine Stop.mk ?_); (conv => whnf); with_reducible first | refine br_t ?_ | refine br_f ?_ | refine br_nn ?_ | refine br_ns ?_ | refine br_not ?_ | refine br_d (fun h => ?_) (fun h => ?_) | refine br_e (fun h => ?_) (fun h => ?_) | refine br_n (fun h => ?_) (fun h => ?_) | refine drw (by kernel_rfl) ?_ | refine chk (by kernel_rfl) ?_ | refine stop ?_)
    all_goals refine Stop.mk ?_
  all_goals try
    refine fin_id hE 0 rfl rfl rfl rfl ⟨_, rfl, ⟨fun h9 => absurd h9 (by decide), fun h9 => ?_⟩, rfl, rfl⟩
    exfalso
    obtain ⟨⟨a1, a2⟩, a3, a4, a5, a6, _⟩ := h9
    omega
  have hbase : (0 ≤ f.args ∧ f.args ≤ f.regs) ∧ f.regs ≤ 1048576 ∧ f.blocks.length ≠ 0 ∧ f.blocks.length ≤ 1048576 ∧ totB f.blocks ≤ 1048576 := by omega
  refine loop_vars follows [(16, (.cons 0 [] (.cons 1 [] (.cons 2 [] (.cons 3 [] (.cons 4 [] (.cons 5 [] (.cons 6 [] (.cons 7 [1, 4, 6] (.cons 8 [] .nil))))))))))] (α := Nat) (fun k => [(3, .v (.int .i64 k))]) (fun x => [.cells 33 [.v (.int .i64 f.args), .v (.int .i64 f.regs), .v (.slice A f.blocks.length c)]]) (fun x => _) (fun k => k ≤ f.blocks.length ∧ ∀ b ∈ f.blocks.take k, (∀ i ∈ b.code, okIns f.regs i) ∧ okTrm f.regs f.blocks.length b.term) (fun k => f.blocks.length - k) 0
    ⟨Nat.zero_le _, by simp⟩ rfl rfl ?_ ?_
  ·
    refine ⟨?_⟩
    (conv => whnf)
    (repeat' (first | exact trivial | exact .inl rfl | exact .inr rfl | refine And.intro ?_ ?_))
  intro k hI
  obtain ⟨hk, hall⟩ := hI
  have hw2 : IntKind.i64.wrap ((k : Int) + 1) = ((k + 1 : Nat) : Int) := by rw [i64_in (by omega) (by omega)]; simp
  repeat' ((fail_if_success with_reducible refine Stop.mk ?_); (conv => whnf); with_reducible first | refine br_t ?_ | refine br_f ?_ | refine br_nn ?_ | refine br_ns ?_ | refine br_not ?_ | refine br_d (fun h => ?_) (fun h => ?_) | refine br_e (fun h => ?_) (fun h => ?_) | refine br_n (fun h => ?_) (fun h => ?_) | refine drw (by kernel_rfl) ?_ | refine chk (by kernel_rfl) ?_ | refine stop ?_)
  all_goals refine Stop.mk ?_
  ·
    obtain ⟨_, hs_, hat_⟩ := hl.at (sz := 5) rfl
    refine ⟨⟨by omega, by omega⟩, _, hs_, fun ad had => ?_⟩
    obtain ⟨b, cells, hb, hRb, hGb⟩ := hat_ k (by omega) ad (by first | exact had | (rw [Int.toNat_natCast] at had; exact had))
    clear had hat_ hs_
    obtain ⟨A', c', rfl, hS, hbt⟩ := kBlk_R hRb
    have hbm := List.mem_of_getElem? hb
    have hcap2 := hS.cap
    have hclb : b.code.length ≤ totB f.blocks := by
      have h1 := totB_take f.blocks k b hb
      have h2 := totB_le f.blocks (k + 1)
      omega
    repeat' ((fail_if_success with_reducible refine Stop.mk ?_); (conv => whnf); with_reducible first | refine br_t ?_ | refine br_f ?_ | refine br_nn ?_ | refine br_ns ?_ | refine br_not ?_ | refine br_d (fun h => ?_) (fun h => ?_) | refine br_e (fun h => ?_) (fun h => ?_) | refine br_n (fun h => ?_) (fun h => ?_) | refine drw (by kernel_rfl) ?_ | refine chk (by kernel_rfl) ?_ | refine stop ?_)
    all_goals refine Stop.mk ?_
    refine ⟨_, rfl, hGb, ?_⟩
    repeat' ((fail_if_success with_reducible refine Stop.mk ?_); (conv => whnf); with_reducible first | refine br_t ?_ | refine br_f ?_ | refine br_nn ?_ | refine br_ns ?_ | refine br_not ?_ | refine br_d (fun h => ?_) (fun h => ?_) | refine br_e (fun h => ?_) (fun h => ?_) | refine br_n (fun h => ?_) (fun h => ?_) | refine drw (by kernel_rfl) ?_ | refine chk (by kernel_rfl) ?_ | refine stop ?_)
    all_goals refine Stop.mk ?_
    refine loop_opq fun K1 hK1 => ?_
    refine loop_vars follows [(16, (.cons 0 [] (.cons 1 [] (.cons 2 [] (.cons 3 [] (.cons 4 [] (.cons 5 [] (.cons 6 [] (.cons 7 [1, 4, 6] (.cons 8 [] .nil))))))))))] (α := Nat) (fun k => [(5, .v (.int .i64 k))]) (fun x => [.cells 33 [.v (.int .i64 f.args), .v (.int .i64 f.regs), .v (.slice A f.blocks.length c)], .cells 47 [.v (.slice A' b.code.length c'), .v (.int .i64 b.term.kind), .v (.int .i64 b.term.a), .v (.int .i64 b.term.to_), .v (.int .i64 b.term.els)]]) (fun x => G') (fun j => j ≤ b.code.length ∧ ∀ i ∈ b.code.take j, okIns f.regs i) (fun j => b.code.length - j) 0
      ⟨Nat.zero_le _, by simp⟩ rfl rfl ?_ ?_
    ·
      refine ⟨?_⟩
      (conv => whnf)
      (repeat' (first | exact trivial | exact .inl rfl | exact .inr rfl | refine And.intro ?_ ?_))
    intro j hJ
    obtain ⟨hj, hchk⟩ := hJ
    have hw3 : IntKind.i64.wrap ((j : Int) + 1) = ((j + 1 : Nat) : Int) := by rw [i64_in (by omega) (by omega)]; simp
    repeat' ((fail_if_success with_reducible refine Stop.mk ?_); (conv => whnf); with_reducible first | refine br_t ?_ | refine br_f ?_ | refine br_nn ?_ | refine br_ns ?_ | refine br_not ?_ | refine br_d (fun h => ?_) (fun h => ?_) | refine br_e (fun h => ?_) (fun h => ?_) | refine br_n (fun h => ?_) (fun h => ?_) | refine drw (by kernel_rfl) ?_ | refine chk (by kernel_rfl) ?_ | refine stop ?_)
    all_goals refine Stop.mk ?_
    ·
      obtain ⟨_, hs_, hat_⟩ := hS.at (sz := 5) rfl
      refine ⟨⟨by omega, by omega⟩, _, hs_, fun ad had => ?_⟩
      obtain ⟨i, cells, hi, hRi, hGi⟩ := hat_ j (by omega) ad (by first | exact had | (rw [Int.toNat_natCast] at had; exact had))
      clear had hat_ hs_
      obtain ⟨rfl, hiok⟩ := hRi
      repeat' ((fail_if_success with_reducible refine Stop.mk ?_); (conv => whnf); with_reducible first | refine br_t ?_ | refine br_f ?_ | refine br_nn ?_ | refine br_ns ?_ | refine br_not ?_ | refine br_d (fun h => ?_) (fun h => ?_) | refine br_e (fun h => ?_) (fun h => ?_) | refine br_n (fun h => ?_) (fun h => ?_) | refine drw (by kernel_rfl) ?_ | refine chk (by kernel_rfl) ?_ | refine stop ?_)
      all_goals refine Stop.mk ?_
      refine ⟨_, rfl, hGi, ?_⟩
      repeat' ((fail_if_success with_reducible refine Stop.mk ?_); (conv => whnf); with_reducible first | refine br_t ?_ | refine br_f ?_ | refine br_nn ?_ | refine br_ns ?_ | refine br_not ?_ | refine br_d (fun h => ?_) (fun h => ?_) | refine br_e (fun h => ?_) (fun h => ?_) | refine br_n (fun h => ?_) (fun h => ?_) | refine drw (by kernel_rfl) ?_ | refine chk (by kernel_rfl) ?_ | refine stop ?_)
      all_goals refine Stop.mk ?_
      refine call_fn [] (r7Instr_fn _ i f.regs hiok.2.2.2.2) rfl trivial (by decide) ?_
      rintro sv H' G' ⟨e, rfl, he, rfl, rfl⟩ -
      refine ⟨Nat.le_of_ble_eq_true rfl, ?_⟩
      repeat' ((fail_if_success with_reducible refine Stop.mk ?_); (conv => whnf); with_reducible first | refine br_t ?_ | refine br_f ?_ | refine br_nn ?_ | refine br_ns ?_ | refine br_not ?_ | refine br_d (fun h => ?_) (fun h => ?_) | refine br_e (fun h => ?_) (fun h => ?_) | refine br_n (fun h => ?_) (fun h => ?_) | refine drw (by kernel_rfl) ?_ | refine chk (by kernel_rfl) ?_ | refine stop ?_)
      all_goals refine Stop.mk ?_
      rotate_left
      · have hne : e ≠ 0 := by assumption
        refine Stop.mk (hK1 _ _ ?_)
        clear hK1
        repeat' ((fail_if_success with_reducible refine Stop.mk ?_); (conv => whnf); with_reducible first | refine br_t ?_ | refine br_f ?_ | refine br_nn ?_ | refine br_ns ?_ | refine br_not ?_ | refine br_d (fun h => ?_) (fun h => ?_) | refine br_e (fun h => ?_) (fun h => ?_) | refine br_n (fun h => ?_) (fun h => ?_) | refine drw (by kernel_rfl) ?_ | refine chk (by kernel_rfl) ?_ | refine stop ?_)
        all_goals refine Stop.mk ?_
        refine fin_id hE 0 rfl rfl rfl rfl ⟨e, rfl, ⟨fun h9 => absurd h9 hne, fun h9 => ?_⟩, rfl, rfl⟩
        exact he.2 ((h9.2.2.2.2.2 b hbm).1 i (List.mem_of_getElem? hi))
      · have he0 : e = 0 := by assumption
        have hgood := he.1 he0
        rw [hw3]
        refine tell_gc hE [0, 1] rfl rfl ?_
        (conv => whnf)
        refine tell_here ⟨j + 1, ⟨by omega, ?_⟩, by show b.code.length - (j + 1) < b.code.length - j; omega, rfl, rfl, ?_⟩
        · intro x hx
          rw [List.take_add_one, hi] at hx
          rcases List.mem_append.1 hx with hx | hx
          · exact hchk x hx
          · simp at hx; subst hx; exact hgood
        ·
          refine ⟨?_⟩
          (conv => whnf)
          (repeat' (first | exact trivial | exact .inl rfl | exact .inr rfl | refine And.intro ?_ ?_))
    · have hjl : j = b.code.length := by omega
      subst hjl
      rw [List.take_length] at hchk
      refine Stop.mk (hK1 _ _ ?_)
      clear hK1
      repeat' ((fail_if_success with_reducible refine Stop.mk ?_); (conv => whnf); with_reducible first | refine br_t ?_ | refine br_f ?_ | refine br_nn ?_ | refine br_ns ?_ | refine br_not ?_ | refine br_d (fun h => ?_) (fun h => ?_) | refine br_e (fun h => ?_) (fun h => ?_) | refine br_n (fun h => ?_) (fun h => ?_) | refine drw (by kernel_rfl) ?_ | refine chk (by kernel_rfl) ?_ | refine stop ?_)
      all_goals refine Stop.mk ?_
      refine call_fn [] (r7Term_fn _ b.term f.regs f.blocks.length) rfl trivial (by decide) ?_
      rintro sv H' G' ⟨e, rfl, he, rfl, rfl⟩ -
      refine ⟨Nat.le_of_ble_eq_true rfl, ?_⟩
      repeat' ((fail_if_success with_reducible refine Stop.mk ?_); (conv => whnf); with_reducible first | refine br_t ?_ | refine br_f ?_ | refine br_nn ?_ | refine br_ns ?_ | refine br_not ?_ | refine br_d (fun h => ?_) (fun h => ?_) | refine br_e (fun h => ?_) (fun h => ?_) | refine br_n (fun h => ?_) (fun h => ?_) | refine drw (by kernel_rfl) ?_ | refine chk (by kernel_rfl) ?_ | refine stop ?_)
      all_goals refine Stop.mk ?_
      rotate_left
      · have hne : e ≠ 0 := by assumption
        refine fin_id hE 0 rfl rfl rfl rfl ⟨e, rfl, ⟨fun h9 => absurd h9 hne, fun h9 => ?_⟩, rfl, rfl⟩
        exact he.2 (h9.2.2.2.2.2 b hbm).2
      · have he0 : e = 0 := by assumption
        have hgood := he.1 he0
        rw [hw2]
        refine tell_gc hE [0] rfl rfl ?_
        (conv => whnf)
        refine tell_here ⟨k + 1, ⟨by omega, ?_⟩, by show f.blocks.length - (k + 1) < f.blocks.length - k; omega, rfl, rfl, ?_⟩
        · intro x hx
          rw [List.take_add_one, hb] at hx
          rcases List.mem_append.1 hx with hx | hx
          · exact hall x hx
          · simp at hx; subst hx; exact ⟨hchk, hgood⟩
        ·
          refine ⟨?_⟩
          (conv => whnf)
          (repeat' (first | exact trivial | exact .inl rfl | exact .inr rfl | refine And.intro ?_ ?_))
  · have hkl : k = f.blocks.length := by omega
    subst hkl
    rw [List.take_length] at hall
    refine fin_id hE 0 rfl rfl rfl rfl ⟨0, rfl, ⟨fun _ => ⟨hbase.1, hbase.2.1, hbase.2.2.1, hbase.2.2.2.1, hbase.2.2.2.2, hall⟩, fun _ => rfl⟩, rfl, rfl⟩
end Go.Proofs.Ytkhajngpcgmpnaa.Cu

namespace Go.Proofs.Ytkhajngpcgmpnaa.Cu
open Go Go.SX Go.Proofs.Ytkhajngpcgmpnaa.VT
set_option maxRecDepth 100000
set_option linter.unusedVariables false
set_option linter.unusedSimpArgs false

theorem Gat_tail {G : Gh} {ad : Addr} {v : Value} {ys : List Value} (h : Gat G ad (v :: ys)) : Gat G (ad.add 1) ys := fun j w hj => by
  have := h (j + 1) w (by simpa using hj)
  rw [Go.Deep.add_add, Nat.add_comm 1 j]
  exact this
theorem ins_ext {x y : Ins} (h : [x.op, x.d, x.a, x.b, x.imm] = [y.op, y.d, y.a, y.b, y.imm]) : x = y := by
  obtain ⟨a, b, c, d, e⟩ := x
  obtain ⟨a', b', c', d', e'⟩ := y
  simp only [List.cons.injEq] at h
  obtain ⟨rfl, rfl, rfl, rfl, rfl, _⟩ := h
  rfl
theorem trm_ext {x y : Trm} (h : [x.kind, x.a, x.to_, x.els] = [y.kind, y.a, y.to_, y.els]) : x = y := by
  obtain ⟨a, b, c, d⟩ := x
  obtain ⟨a', b', c', d'⟩ := y
  simp only [List.cons.injEq] at h
  obtain ⟨rfl, rfl, rfl, rfl, _⟩ := h
  rfl
end Go.Proofs.Ytkhajngpcgmpnaa.Cu

namespace Go.Proofs.Ytkhajngpcgmpnaa.Cu
open Go Go.SX Go.Proofs.Ytkhajngpcgmpnaa.VT
set_option maxRecDepth 100000
set_option linter.unusedVariables false
set_option linter.unusedSimpArgs false

end Go.Proofs.Ytkhajngpcgmpnaa.Cu

namespace Go.Proofs.Ytkhajngpcgmpnaa.Cu
open Go Go.SX Go.Proofs.Ytkhajngpcgmpnaa.VT
set_option maxRecDepth 100000
set_option linter.unusedVariables false
set_option linter.unusedSimpArgs false

theorem mac_ext {x y : Mac} (h : [x.op, x.d, x.a, x.b, x.imm, x.dst, x.src] = [y.op, y.d, y.a, y.b, y.imm, y.dst, y.src]) : x = y := by
  obtain ⟨a, b, c, d, e, f, g⟩ := x
  obtain ⟨a', b', c', d', e', f', g'⟩ := y
  simp only [List.cons.injEq] at h
  obtain ⟨rfl, rfl, rfl, rfl, rfl, rfl, rfl, _⟩ := h
  rfl
end Go.Proofs.Ytkhajngpcgmpnaa.Cu

namespace Go.Proofs.Ytkhajngpcgmpnaa.Cu
open Go Go.SX Go.Proofs.Ytkhajngpcgmpnaa.VT
set_option maxRecDepth 100000
set_option linter.unusedVariables false
set_option linter.unusedSimpArgs false

theorem okMCode_ix (regs slots : Int) : ∀ (l : List Mac) (s : Int), okL (okMacR regs slots) nxR s l ↔ (∀ i ∈ l, okMac regs slots i) ∧ ∀ k, k ≤ l.length → 0 < k → foldS nxR s (l.take k) ≤ 64
  | [], s => by
    simp only [okL, true_iff]
    exact ⟨fun i hi => by simp at hi, fun k h1 h2 => by simp at h1; omega⟩
  | x :: l, s => by
    simp only [okL]
    rw [okMCode_ix regs slots l (nxR s x)]
    unfold okMacR
    constructor
    · rintro ⟨⟨h1, h2⟩, h3, h4⟩
      refine ⟨fun i hi => ?_, fun k hk hk0 => ?_⟩
      · rcases List.mem_cons.1 hi with rfl | hi
        · exact h1
        · exact h3 i hi
      · obtain ⟨k', rfl⟩ : ∃ k', k = k' + 1 := ⟨k - 1, by omega⟩
        rw [List.take_succ_cons, foldS]
        by_cases h0 : k' = 0
        · subst h0; simpa [foldS] using h2
        · exact h4 k' (by simpa using hk) (by omega)
    · rintro ⟨h1, h2⟩
      refine ⟨⟨h1 x (by simp), by simpa [foldS] using h2 1 (by simp) (by omega)⟩, fun i hi => h1 i (by simp [hi]), fun k hk hk0 => ?_⟩
      have := h2 (k + 1) (by simpa using hk) (by omega)
      rwa [List.take_succ_cons, foldS] at this
/-- Code that may be written: each instruction, and no 65 moves in a row. -/
theorem okMCode_iff (regs slots : Int) (l : List Mac) : okMCode regs slots l ↔ (∀ i ∈ l, okMac regs slots i) ∧ ∀ k, 64 ≤ k → k < l.length → ¬ ∀ i x, k - 64 ≤ i → i ≤ k → l[i]? = some x → x.op = 18 := by
  unfold okMCode
  rw [okMCode_ix]
  refine and_congr Iff.rfl ?_
  constructor
  · intro h k h1 h2 h3
    have h4 := h (k + 1) (by omega) (by omega)
    have h5 := (runK_iff l (k + 1) 65 (by omega) (by omega)).2 fun i x h6 h7 hx => h3 i x (by omega) (by omega) hx
    unfold runK at h5
    omega
  · intro h k h1 h2
    rcases Int.lt_or_le 64 (foldS nxR 0 (l.take k)) with h3 | h3
    rotate_left
    · exact h3
    · exfalso
      have hle : runK l k ≤ k := by
        have h9 : ∀ k, runK l k ≤ k := by
          intro k
          induction k with
          | zero => simp [runK, foldS]
          | succ k ih =>
            cases hx : l[k]? with
            | none =>
              have e : l.take (k + 1) = l.take k := by rw [List.take_add_one, hx]; simp
              unfold runK at *
              rw [e]; omega
            | some x =>
              rw [runK_next l k x hx]
              unfold nxR; split <;> omega
        exact h9 k
      have h65 : 65 ≤ k := by unfold runK at hle; omega
      have h5 := (runK_iff l k 65 h1 h65).1 (by unfold runK; omega)
      refine h (k - 1) (by omega) (by omega) fun i x h6 h7 hx => h5 i x (by omega) (by omega) hx
end Go.Proofs.Ytkhajngpcgmpnaa.Cu

namespace Go.Proofs.Ytkhajngpcgmpnaa.Cu
open Go Go.SX Go.Proofs.Ytkhajngpcgmpnaa.VT
set_option maxRecDepth 100000
set_option linter.unusedVariables false
set_option linter.unusedSimpArgs false
set_option maxHeartbeats 8000000 in
theorem moves8_fn (G : Gh) (A : Option Addr) (c : Nat) (l : List Mac) (hl : kMac.S G A c l) (h65 : l.length = 65) :
    Ct Try.prog 94 [.v (.slice A l.length c)] [] G fun sv H' G' => ∃ r : Int, sv = .v (.int .i64 r) ∧ (r > 64 ↔ ∀ (j : Nat) (x : Mac), l[j]? = some x → x.op = 18) ∧ H' = [] ∧ G' = G := by
  refine fn_of follows [] Try.func94 rfl rfl fun E hE => ?_
  have hcap := hl.cap
  repeat' ((fail_if_success with_reducible refine Stop.mk ?_); (conv => whnf); with_reducible first | refine br_t ?_ | refine br_f ?_ | refine br_nn ?_ | refine br_ns ?_ | refine br_not ?_ | refine br_d (fun h => ?_) (fun h => ?_) | refine br_e (fun h => ?_) (fun h => ?_) | refine br_n (fun h => ?_) (fun h => ?_) | refine drw (by kernel_rfl) ?_ | refine chk (by kernel_rfl) ?_ | refine stop ?_)
  all_goals refine Stop.mk ?_
  refine loop_vars follows [] (α := Nat × Int) (fun x => [(3, .v (.int .i64 x.2)), (4, .v (.int .i64 x.1))]) (fun x => []) (fun x => G)
    (fun x => x.1 ≤ 65 ∧ (0 ≤ x.2 ∧ x.2 ≤ 65) ∧ (x.2 > 64 → ∀ (j : Nat) (y : Mac), l[j]? = some y → y.op = 18) ∧ (0 < x.1 → (∀ (j : Nat) (y : Mac), l[j]? = some y → y.op = 18) → x.2 > 64)) (fun x => 65 - x.1) (0, 0)
    ⟨Nat.zero_le _, ⟨Int.le_refl _, by dsimp only; decide⟩, fun h => absurd h (by dsimp only; decide), fun h => absurd h (Nat.lt_irrefl _)⟩ rfl rfl ?_ ?_
  ·
    refine ⟨?_⟩
    (conv => whnf)
    (repeat' (first | exact trivial | exact .inl rfl | exact .inr rfl | refine And.intro ?_ ?_))
  rintro ⟨i, most⟩ ⟨hi, hm, hall, hsome⟩
  dsimp only at hi hm hall hsome ⊢
  have hw2 : IntKind.i64.wrap ((i : Int) + 1) = ((i + 1 : Nat) : Int) := by rw [i64_in (by omega) (by omega)]; simp
  repeat' ((fail_if_success with_reducible refine Stop.mk ?_); (conv => whnf); with_reducible first | refine br_t ?_ | refine br_f ?_ | refine br_nn ?_ | refine br_ns ?_ | refine br_not ?_ | refine br_d (fun h => ?_) (fun h => ?_) | refine br_e (fun h => ?_) (fun h => ?_) | refine br_n (fun h => ?_) (fun h => ?_) | refine drw (by kernel_rfl) ?_ | refine chk (by kernel_rfl) ?_ | refine stop ?_)
  all_goals refine Stop.mk ?_
  · refine loop_opq fun K1 hK1 => ?_
    refine loop_vars follows [] (α := Nat) (fun n => [(5, .v (.int .i64 n))]) (fun x => []) (fun x => G) (fun n => i + n ≤ 65 ∧ ∀ (j : Nat) (y : Mac), i ≤ j → j < i + n → l[j]? = some y → y.op = 18) (fun n => 65 - n) 0
      ⟨by omega, fun j y h1 h2 => by omega⟩ rfl rfl ?_ ?_
    ·
      refine ⟨?_⟩
      (conv => whnf)
      (repeat' (first | exact trivial | exact .inl rfl | exact .inr rfl | refine And.intro ?_ ?_))
    intro n hN
    obtain ⟨hn, hrun⟩ := hN
    have hw3 : IntKind.i64.wrap ((n : Int) + 1) = ((n + 1 : Nat) : Int) := by rw [i64_in (by omega) (by omega)]; simp
    have hw4 : IntKind.i64.wrap ((i : Int) + (n : Int)) = ((i + n : Nat) : Int) := by rw [i64_in (by omega) (by omega)]; simp
    have hdone : (i + n = 65 ∨ ∃ y : Mac, l[i + n]? = some y ∧ y.op ≠ 18) → (((n : Int) > most → (n : Int) > 64 → ∀ (j : Nat) (y : Mac), l[j]? = some y → y.op = 18) ∧ ((∀ (j : Nat) (y : Mac), l[j]? = some y → y.op = 18) → (n : Int) > 64 ∨ 0 < i)) := by
      intro hd
      refine ⟨fun _ h9 j y hy => ?_, fun h9 => ?_⟩
      · have hj : j < 65 := by have := (List.getElem?_eq_some_iff.1 hy).1; omega
        exact hrun j y (by omega) (by omega) hy
      · rcases hd with hd | ⟨y, hy, hne⟩
        · by_cases h0 : 0 < i
          · exact .inr h0
          · exact .inl (by omega)
        · exact absurd (h9 _ y hy) hne
    repeat' ((fail_if_success with_reducible refine Stop.mk ?_); (conv => whnf); with_reducible first | refine br_t ?_ | refine br_f ?_ | refine br_nn ?_ | refine br_ns ?_ | refine br_not ?_ | refine br_d (fun h => ?_) (fun h => ?_) | refine br_e (fun h => ?_) (fun h => ?_) | refine br_n (fun h => ?_) (fun h => ?_) | refine drw (by kernel_rfl) ?_ | refine chk (by kernel_rfl) ?_ | refine stop ?_)
    all_goals refine Stop.mk ?_
    all_goals try rw [hw4] at h ⊢
    · obtain ⟨z, hz⟩ : ∃ z, z = i + n := ⟨_, rfl⟩
      rw [← hz]
      obtain ⟨_, hs_, hat_⟩ := hl.at (sz := 7) rfl
      refine ⟨⟨by omega, by omega⟩, _, hs_, fun ad had => ?_⟩
      obtain ⟨y, cells, hy, hRy, hGy⟩ := hat_ z (by omega) ad (by first | exact had | (rw [Int.toNat_natCast] at had; exact had))
      clear had hat_ hs_
      obtain ⟨rfl, hyok⟩ := hRy
      repeat' ((fail_if_success with_reducible refine Stop.mk ?_); (conv => whnf); with_reducible first | refine br_t ?_ | refine br_f ?_ | refine br_nn ?_ | refine br_ns ?_ | refine br_not ?_ | refine br_d (fun h => ?_) (fun h => ?_) | refine br_e (fun h => ?_) (fun h => ?_) | refine br_n (fun h => ?_) (fun h => ?_) | refine drw (by kernel_rfl) ?_ | refine chk (by kernel_rfl) ?_ | refine stop ?_)
      all_goals refine Stop.mk ?_
      refine ⟨_, hGy 0 _ rfl, ?_⟩
      repeat' ((fail_if_success with_reducible refine Stop.mk ?_); (conv => whnf); with_reducible first | refine br_t ?_ | refine br_f ?_ | refine br_nn ?_ | refine br_ns ?_ | refine br_not ?_ | refine br_d (fun h => ?_) (fun h => ?_) | refine br_e (fun h => ?_) (fun h => ?_) | refine br_n (fun h => ?_) (fun h => ?_) | refine drw (by kernel_rfl) ?_ | refine chk (by kernel_rfl) ?_ | refine stop ?_)
      all_goals refine Stop.mk ?_
      · have h18 : y.op = 18 := by assumption
        rw [hw3]
        refine tell_here ⟨n + 1, ⟨by omega, fun j x h1 h2 hx => ?_⟩, by show 65 - (n + 1) < 65 - n; omega, rfl, rfl, ?_⟩
        · rcases Nat.lt_or_ge j (i + n) with h3 | h3
          · exact hrun j x h1 h3 hx
          · have h4 : j = z := by omega
            subst h4
            rw [hy] at hx
            simp at hx; subst hx; exact h18
        ·
          refine ⟨?_⟩
          (conv => whnf)
          (repeat' (first | exact trivial | exact .inl rfl | exact .inr rfl | refine And.intro ?_ ?_))
      · obtain ⟨hd1, hd2⟩ := hdone (by first | exact .inl (by omega) | exact .inr ⟨y, by rw [← hz]; exact hy, by assumption⟩)
        refine Stop.mk (hK1 _ _ ?_)
        clear hK1
        repeat' ((fail_if_success with_reducible refine Stop.mk ?_); (conv => whnf); with_reducible first | refine br_t ?_ | refine br_f ?_ | refine br_nn ?_ | refine br_ns ?_ | refine br_not ?_ | refine br_d (fun h => ?_) (fun h => ?_) | refine br_e (fun h => ?_) (fun h => ?_) | refine br_n (fun h => ?_) (fun h => ?_) | refine drw (by kernel_rfl) ?_ | refine chk (by kernel_rfl) ?_ | refine stop ?_)
        all_goals refine Stop.mk ?_
        all_goals rw [hw2]
        · have hgt : (n : Int) > most := by omega
          refine tell_here ⟨(i + 1, (n : Int)), ⟨by show i + 1 ≤ 65; omega, ⟨by dsimp only; omega, by dsimp only; omega⟩, fun h9 => hd1 hgt h9, fun _ h9 => ?_⟩, by show 65 - (i + 1) < 65 - i; omega, rfl, rfl, ?_⟩
          · rcases hd2 h9 with h8 | h8
            · exact h8
            · have := hsome h8 h9
              dsimp only; omega
          ·
            refine ⟨?_⟩
            (conv => whnf)
            (repeat' (first | exact trivial | exact .inl rfl | exact .inr rfl | refine And.intro ?_ ?_))
        · have hle : ¬ (n : Int) > most := by omega
          refine tell_here ⟨(i + 1, most), ⟨by show i + 1 ≤ 65; omega, hm, hall, fun _ h9 => ?_⟩, by show 65 - (i + 1) < 65 - i; omega, rfl, rfl, ?_⟩
          · rcases hd2 h9 with h8 | h8
            · dsimp only; omega
            · exact hsome h8 h9
          ·
            refine ⟨?_⟩
            (conv => whnf)
            (repeat' (first | exact trivial | exact .inl rfl | exact .inr rfl | refine And.intro ?_ ?_))
    · obtain ⟨hd1, hd2⟩ := hdone (by first | exact .inl (by omega))
      refine Stop.mk (hK1 _ _ ?_)
      clear hK1
      repeat' ((fail_if_success with_reducible refine Stop.mk ?_); (conv => whnf); with_reducible first | refine br_t ?_ | refine br_f ?_ | refine br_nn ?_ | refine br_ns ?_ | refine br_not ?_ | refine br_d (fun h => ?_) (fun h => ?_) | refine br_e (fun h => ?_) (fun h => ?_) | refine br_n (fun h => ?_) (fun h => ?_) | refine drw (by kernel_rfl) ?_ | refine chk (by kernel_rfl) ?_ | refine stop ?_)
      all_goals refine Stop.mk ?_
      all_goals rw [hw2]
      · have hgt : (n : Int) > most := by omega
        refine tell_here ⟨(i + 1, (n : Int)), ⟨by show i + 1 ≤ 65; omega, ⟨by dsimp only; omega, by dsimp only; omega⟩, fun h9 => hd1 hgt h9, fun _ h9 => ?_⟩, by show 65 - (i + 1) < 65 - i; omega, rfl, rfl, ?_⟩
        · rcases hd2 h9 with h8 | h8
          · exact h8
          · have := hsome h8 h9
            dsimp only; omega
        ·
          refine ⟨?_⟩
          (conv => whnf)
          (repeat' (first | exact trivial | exact .inl rfl | exact .inr rfl | refine And.intro ?_ ?_))
      · have hle : ¬ (n : Int) > most := by omega
        refine tell_here ⟨(i + 1, most), ⟨by show i + 1 ≤ 65; omega, hm, hall, fun _ h9 => ?_⟩, by show 65 - (i + 1) < 65 - i; omega, rfl, rfl, ?_⟩
        · rcases hd2 h9 with h8 | h8
          · dsimp only; omega
          · exact hsome h8 h9
        ·
          refine ⟨?_⟩
          (conv => whnf)
          (repeat' (first | exact trivial | exact .inl rfl | exact .inr rfl | refine And.intro ?_ ?_))
  · have hii : i = 65 := by omega
    subst hii
    exact fin_all ⟨most, rfl, ⟨hall, fun h => hsome (by omega) h⟩, rfl, rfl⟩
end Go.Proofs.Ytkhajngpcgmpnaa.Cu

namespace Go.Proofs.Ytkhajngpcgmpnaa.Cu
open Go Go.SX Go.Proofs.Ytkhajngpcgmpnaa.VT
set_option maxRecDepth 100000
set_option linter.unusedVariables false
set_option linter.unusedSimpArgs false

theorem okMBs_iff (regs slots n : Int) : ∀ (l : List MBlk) (t : Int), 0 ≤ t → (okL (okMB regs slots n) nxMB t l ↔ ((l = [] ∨ t + totMB l ≤ 1048576) ∧ ∀ b ∈ l, okMCode regs slots b.code ∧ okTrm regs n b.term))
  | [], t, _ => by simp [okL]
  | x :: l, t, ht => by
    have h := okMBs_iff regs slots n l (nxMB t x) (by unfold nxMB; omega)
    simp only [okL, totMB]
    rw [h]
    unfold okMB nxMB
    constructor
    · rintro ⟨⟨h1, h2, h2'⟩, h3, h4⟩
      refine ⟨.inr ?_, ?_⟩
      · rcases h3 with rfl | h3
        · simp [totMB]; omega
        · push_cast; omega
      · intro y hy
        rcases List.mem_cons.1 hy with rfl | hy
        · exact ⟨h2, h2'⟩
        · exact h4 y hy
    · rintro ⟨h1, h2⟩
      have h1' : t + ((x.code.length + totMB l : Nat) : Int) ≤ 1048576 := by
        rcases h1 with h1 | h1
        · simp at h1
        · exact h1
      have h3 := h2 x (by simp)
      exact ⟨⟨by omega, h3.1, h3.2⟩, .inr (by omega), fun y hy => h2 y (by simp [hy])⟩
theorem okMFn_iff (f : MFn) : okMFn f ↔ (0 ≤ f.args ∧ f.args ≤ f.slots) ∧ (0 ≤ f.regs ∧ f.regs ≤ 1048576 ∧ f.slots ≤ 1048576) ∧ f.blocks.length ≠ 0 ∧ f.blocks.length ≤ 1048576 ∧ totMB f.blocks ≤ 1048576 ∧ ∀ b ∈ f.blocks, okMCode f.regs f.slots b.code ∧ okTrm f.regs f.blocks.length b.term := by
  unfold okMFn
  rw [okMBs_iff _ _ _ _ 0 (Int.le_refl _)]
  constructor
  · rintro ⟨⟨h1, ⟨h2, h2'⟩, h2''⟩, ⟨h3, h4⟩, h5, h6⟩
    refine ⟨h1, ⟨h2, h2', h2''⟩, h3, h4, ?_, h6⟩
    rcases h5 with h5 | h5
    · rw [h5] at h3; exact absurd rfl h3
    · omega
  · rintro ⟨h1, ⟨h2, h2', h2''⟩, h3, h4, h5, h6⟩
    exact ⟨⟨h1, ⟨h2, h2'⟩, h2''⟩, ⟨h3, h4⟩, .inr (by omega), h6⟩
set_option maxHeartbeats 8000000 in
theorem check8_fn (G : Gh) (A : Option Addr) (c : Nat) (f : MFn) (hl : kMBlk.S G A c f.blocks) (hbl : f.blocks.length ≤ 1000000000) (htl : totMB f.blocks ≤ 1000000000) :
    Ct Try.prog 66 [mfnS A c f] [] G fun sv H' G' => ∃ e : Int, sv = .v (.int .i64 e) ∧ (e = 0 ↔ okMFn f) ∧ H' = [] ∧ G' = G := by
  refine fn_of follows [(18, (.cons 0 [] (.cons 1 [] (.cons 2 [] (.cons 3 [] (.cons 4 [] (.cons 5 [] (.cons 6 [] (.cons 7 [] (.cons 8 [] (.cons 9 [1, 4, 6, 8] (.cons 10 [] .nil))))))))))))] Try.func66 rfl rfl fun E hE => ?_
  have hcap := hl.cap
  rw [okMFn_iff]
  unfold mfnS
  repeat' ((fail_if_success with_reducible refine Stop.mk ?_); (conv => whnf); with_reducible first | refine br_t ?_ | refine br_f ?_ | refine br_nn ?_ | refine br_ns ?_ | refine br_not ?_ | refine br_d (fun h => ?_) (fun h => ?_) | refine br_e (fun h => ?_) (fun h => ?_) | refine br_n (fun h => ?_) (fun h => ?_) | refine drw (by kernel_rfl) ?_ | refine chk (by kernel_rfl) ?_ | refine stop ?_)
  all_goals refine Stop.mk ?_
  all_goals try
    refine call_fn [] (code8_fn _ A c f hl hbl htl) rfl trivial (by decide) ?_
    rintro sv H' G' ⟨rfl, rfl, rfl⟩ -
    refine ⟨Nat.le_of_ble_eq_true rfl, ?_⟩
    repeat' ((fail_if_success with_reducible refine Stop.mk ?_); (conv => whnf); with_reducible first | refine br_t ?_ | refine br_f ?_ | refine br_nn ?_ | refine br_ns ?_ | refine br_not ?_ | refine br_d (fun h => ?_) (fun h => ?_) | refine br_e (fun h => ?_) (fun h => ?_) | refine br_n (fun h => ?_) (fun h => ?_) | refine drw (by kernel_rfl) ?_ | refine chk (by kernel_rfl) ?_ | refine stop ?_)
    all_goals refine Stop.mk ?_
  all_goals try
    refine fin_id hE 0 rfl rfl rfl rfl ⟨_, rfl, ⟨fun h9 => absurd h9 (by decide), fun h9 => ?_⟩, rfl, rfl⟩
    exfalso
    obtain ⟨⟨a1, a2⟩, ⟨a3, a4, a5⟩, a6, a7, a8, _⟩ := h9
    omega
  have hbase : (0 ≤ f.args ∧ f.args ≤ f.slots) ∧ (0 ≤ f.regs ∧ f.regs ≤ 1048576 ∧ f.slots ≤ 1048576) ∧ f.blocks.length ≠ 0 ∧ f.blocks.length ≤ 1048576 ∧ totMB f.blocks ≤ 1048576 := by omega
  refine loop_vars follows [(18, (.cons 0 [] (.cons 1 [] (.cons 2 [] (.cons 3 [] (.cons 4 [] (.cons 5 [] (.cons 6 [] (.cons 7 [] (.cons 8 [] (.cons 9 [1, 4, 6, 8] (.cons 10 [] .nil))))))))))))] (α := Nat) (fun k => [(3, .v (.int .i64 k))]) (fun x => [.cells 36 [.v (.int .i64 f.args), .v (.int .i64 f.regs), .v (.int .i64 f.slots), .v (.slice A f.blocks.length c)]]) (fun x => _) (fun k => k ≤ f.blocks.length ∧ ∀ b ∈ f.blocks.take k, okMCode f.regs f.slots b.code ∧ okTrm f.regs f.blocks.length b.term) (fun k => f.blocks.length - k) 0
    ⟨Nat.zero_le _, by simp⟩ rfl rfl ?_ ?_
  ·
    refine ⟨?_⟩
    (conv => whnf)
    (repeat' (first | exact trivial | exact .inl rfl | exact .inr rfl | refine And.intro ?_ ?_))
  intro k hI
  obtain ⟨hk, hall⟩ := hI
  have hw2 : IntKind.i64.wrap ((k : Int) + 1) = ((k + 1 : Nat) : Int) := by rw [i64_in (by omega) (by omega)]; simp
  repeat' ((fail_if_success with_reducible refine Stop.mk ?_); (conv => whnf); with_reducible first | refine br_t ?_ | refine br_f ?_ | refine br_nn ?_ | refine br_ns ?_ | refine br_not ?_ | refine br_d (fun h => ?_) (fun h => ?_) | refine br_e (fun h => ?_) (fun h => ?_) | refine br_n (fun h => ?_) (fun h => ?_) | refine drw (by kernel_rfl) ?_ | refine chk (by kernel_rfl) ?_ | refine stop ?_)
  all_goals refine Stop.mk ?_
  ·
    obtain ⟨_, hs_, hat_⟩ := hl.at (sz := 5) rfl
    refine ⟨⟨by omega, by omega⟩, _, hs_, fun ad had => ?_⟩
    obtain ⟨b, cells, hb, hRb, hGb⟩ := hat_ k (by omega) ad (by first | exact had | (rw [Int.toNat_natCast] at had; exact had))
    clear had hat_ hs_
    obtain ⟨A', c', rfl, hS, hbt⟩ := kMBlk_R hRb
    have hbm := List.mem_of_getElem? hb
    have hcap2 := hS.cap
    have hclb : b.code.length ≤ totMB f.blocks := by
      have h1 := totMB_take f.blocks k b hb
      have h2 := totMB_le f.blocks (k + 1)
      omega
    repeat' ((fail_if_success with_reducible refine Stop.mk ?_); (conv => whnf); with_reducible first | refine br_t ?_ | refine br_f ?_ | refine br_nn ?_ | refine br_ns ?_ | refine br_not ?_ | refine br_d (fun h => ?_) (fun h => ?_) | refine br_e (fun h => ?_) (fun h => ?_) | refine br_n (fun h => ?_) (fun h => ?_) | refine drw (by kernel_rfl) ?_ | refine chk (by kernel_rfl) ?_ | refine stop ?_)
    all_goals refine Stop.mk ?_
    refine ⟨_, rfl, hGb, ?_⟩
    repeat' ((fail_if_success with_reducible refine Stop.mk ?_); (conv => whnf); with_reducible first | refine br_t ?_ | refine br_f ?_ | refine br_nn ?_ | refine br_ns ?_ | refine br_not ?_ | refine br_d (fun h => ?_) (fun h => ?_) | refine br_e (fun h => ?_) (fun h => ?_) | refine br_n (fun h => ?_) (fun h => ?_) | refine drw (by kernel_rfl) ?_ | refine chk (by kernel_rfl) ?_ | refine stop ?_)
    all_goals refine Stop.mk ?_
    refine loop_opq fun K1 hK1 => ?_
    refine loop_vars follows [(18, (.cons 0 [] (.cons 1 [] (.cons 2 [] (.cons 3 [] (.cons 4 [] (.cons 5 [] (.cons 6 [] (.cons 7 [] (.cons 8 [] (.cons 9 [1, 4, 6, 8] (.cons 10 [] .nil))))))))))))] (α := Nat) (fun k => [(5, .v (.int .i64 k))]) (fun x => [.cells 36 [.v (.int .i64 f.args), .v (.int .i64 f.regs), .v (.int .i64 f.slots), .v (.slice A f.blocks.length c)], .cells 50 [.v (.slice A' b.code.length c'), .v (.int .i64 b.term.kind), .v (.int .i64 b.term.a), .v (.int .i64 b.term.to_), .v (.int .i64 b.term.els)]]) (fun x => G') (fun j => j ≤ b.code.length ∧ (∀ i ∈ b.code.take j, okMac f.regs f.slots i) ∧ ∀ k, 64 ≤ k → k < j → ¬ ∀ (i : Nat) (x : Mac), k - 64 ≤ i → i ≤ k → b.code[i]? = some x → x.op = 18) (fun j => b.code.length - j) 0
      ⟨Nat.zero_le _, by simp, fun k _ h => absurd h (Nat.not_lt_zero _)⟩ rfl rfl ?_ ?_
    ·
      refine ⟨?_⟩
      (conv => whnf)
      (repeat' (first | exact trivial | exact .inl rfl | exact .inr rfl | refine And.intro ?_ ?_))
    intro j hJ
    obtain ⟨hj, hchk, hwin⟩ := hJ
    have hw3 : IntKind.i64.wrap ((j : Int) + 1) = ((j + 1 : Nat) : Int) := by rw [i64_in (by omega) (by omega)]; simp
    repeat' ((fail_if_success with_reducible refine Stop.mk ?_); (conv => whnf); with_reducible first | refine br_t ?_ | refine br_f ?_ | refine br_nn ?_ | refine br_ns ?_ | refine br_not ?_ | refine br_d (fun h => ?_) (fun h => ?_) | refine br_e (fun h => ?_) (fun h => ?_) | refine br_n (fun h => ?_) (fun h => ?_) | refine drw (by kernel_rfl) ?_ | refine chk (by kernel_rfl) ?_ | refine stop ?_)
    all_goals refine Stop.mk ?_
    ·
      obtain ⟨_, hs_, hat_⟩ := hS.at (sz := 7) rfl
      refine ⟨⟨by omega, by omega⟩, _, hs_, fun ad had => ?_⟩
      obtain ⟨i, cells, hi, hRi, hGi⟩ := hat_ j (by omega) ad (by first | exact had | (rw [Int.toNat_natCast] at had; exact had))
      clear had hat_ hs_
      obtain ⟨rfl, hiok⟩ := hRi
      repeat' ((fail_if_success with_reducible refine Stop.mk ?_); (conv => whnf); with_reducible first | refine br_t ?_ | refine br_f ?_ | refine br_nn ?_ | refine br_ns ?_ | refine br_not ?_ | refine br_d (fun h => ?_) (fun h => ?_) | refine br_e (fun h => ?_) (fun h => ?_) | refine br_n (fun h => ?_) (fun h => ?_) | refine drw (by kernel_rfl) ?_ | refine chk (by kernel_rfl) ?_ | refine stop ?_)
      all_goals refine Stop.mk ?_
      refine ⟨_, rfl, hGi, ?_⟩
      repeat' ((fail_if_success with_reducible refine Stop.mk ?_); (conv => whnf); with_reducible first | refine br_t ?_ | refine br_f ?_ | refine br_nn ?_ | refine br_ns ?_ | refine br_not ?_ | refine br_d (fun h => ?_) (fun h => ?_) | refine br_e (fun h => ?_) (fun h => ?_) | refine br_n (fun h => ?_) (fun h => ?_) | refine drw (by kernel_rfl) ?_ | refine chk (by kernel_rfl) ?_ | refine stop ?_)
      all_goals refine Stop.mk ?_
      refine call_fn [] (r8Instr_fn _ i f.regs f.slots hiok (by omega) (by omega)) rfl trivial (by decide) ?_
      rintro sv H' G' ⟨e, rfl, he, rfl, rfl⟩ -
      refine ⟨Nat.le_of_ble_eq_true rfl, ?_⟩
      repeat' ((fail_if_success with_reducible refine Stop.mk ?_); (conv => whnf); with_reducible first | refine br_t ?_ | refine br_f ?_ | refine br_nn ?_ | refine br_ns ?_ | refine br_not ?_ | refine br_d (fun h => ?_) (fun h => ?_) | refine br_e (fun h => ?_) (fun h => ?_) | refine br_n (fun h => ?_) (fun h => ?_) | refine drw (by kernel_rfl) ?_ | refine chk (by kernel_rfl) ?_ | refine stop ?_)
      all_goals refine Stop.mk ?_
      rotate_left 2
      · have hne : e ≠ 0 := by assumption
        refine Stop.mk (hK1 _ _ ?_)
        clear hK1
        repeat' ((fail_if_success with_reducible refine Stop.mk ?_); (conv => whnf); with_reducible first | refine br_t ?_ | refine br_f ?_ | refine br_nn ?_ | refine br_ns ?_ | refine br_not ?_ | refine br_d (fun h => ?_) (fun h => ?_) | refine br_e (fun h => ?_) (fun h => ?_) | refine br_n (fun h => ?_) (fun h => ?_) | refine drw (by kernel_rfl) ?_ | refine chk (by kernel_rfl) ?_ | refine stop ?_)
        all_goals refine Stop.mk ?_
        refine fin_id hE 0 rfl rfl rfl rfl ⟨e, rfl, ⟨fun h9 => absurd h9 hne, fun h9 => ?_⟩, rfl, rfl⟩
        exact he.2 (((okMCode_iff _ _ _).1 (h9.2.2.2.2.2 b hbm).1).1 i (List.mem_of_getElem? hi))
      · have he0 : e = 0 := by assumption
        have hgood := he.1 he0
        have hj64 : 64 ≤ j := by omega
        have hw5 : IntKind.i64.wrap ((j : Int) - 64) = ((j - 64 : Nat) : Int) := by rw [i64_in (by omega) (by omega)]; omega
        rw [hw3]
        refine ⟨⟨by omega, by omega⟩, ?_⟩
        repeat' ((fail_if_success with_reducible refine Stop.mk ?_); (conv => whnf); with_reducible first | refine br_t ?_ | refine br_f ?_ | refine br_nn ?_ | refine br_ns ?_ | refine br_not ?_ | refine br_d (fun h => ?_) (fun h => ?_) | refine br_e (fun h => ?_) (fun h => ?_) | refine br_n (fun h => ?_) (fun h => ?_) | refine drw (by kernel_rfl) ?_ | refine chk (by kernel_rfl) ?_ | refine stop ?_)
        all_goals refine Stop.mk ?_
        rw [hw5]
        refine ⟨⟨by omega, by omega⟩, fun A2 hA2 => ?_⟩
        rw [Int.toNat_natCast] at hA2
        simp only [Int.toNat_natCast]
        have hS2 := (hS.drop_ (a := j - 64) (by omega) hA2).take_ (k := 65) (by rw [List.length_drop]; omega)
        have hl65 : ((b.code.drop (j - 64)).take 65).length = 65 := by rw [List.length_take, List.length_drop]; omega
        have hmv := moves8_fn G' A2 (c' - (j - 64)) ((b.code.drop (j - 64)).take 65) hS2 hl65
        rw [hl65] at hmv
        rw [show j + 1 - (j - 64) = 65 by omega]
        repeat' ((fail_if_success with_reducible refine Stop.mk ?_); (conv => whnf); with_reducible first | refine br_t ?_ | refine br_f ?_ | refine br_nn ?_ | refine br_ns ?_ | refine br_not ?_ | refine br_d (fun h => ?_) (fun h => ?_) | refine br_e (fun h => ?_) (fun h => ?_) | refine br_n (fun h => ?_) (fun h => ?_) | refine drw (by kernel_rfl) ?_ | refine chk (by kernel_rfl) ?_ | refine stop ?_)
        all_goals refine Stop.mk ?_
        refine call_fn [] hmv rfl trivial (by decide) ?_
        rintro sv H' G' ⟨r, rfl, hr, rfl, rfl⟩ -
        refine ⟨Nat.le_of_ble_eq_true rfl, ?_⟩
        have hwinj : r > 64 ↔ ∀ (i : Nat) (x : Mac), j - 64 ≤ i → i ≤ j → b.code[i]? = some x → x.op = 18 := by
          rw [hr]
          constructor
          · intro h9 i x h1 h2 hx
            refine h9 (i - (j - 64)) x ?_
            rw [List.getElem?_take, if_pos (by omega), List.getElem?_drop, show j - 64 + (i - (j - 64)) = i by omega]
            exact hx
          · intro h9 i x hx
            rw [List.getElem?_take] at hx
            split at hx
            · rw [List.getElem?_drop] at hx
              exact h9 _ x (by omega) (by omega) hx
            · simp at hx
        repeat' ((fail_if_success with_reducible refine Stop.mk ?_); (conv => whnf); with_reducible first | refine br_t ?_ | refine br_f ?_ | refine br_nn ?_ | refine br_ns ?_ | refine br_not ?_ | refine br_d (fun h => ?_) (fun h => ?_) | refine br_e (fun h => ?_) (fun h => ?_) | refine br_n (fun h => ?_) (fun h => ?_) | refine drw (by kernel_rfl) ?_ | refine chk (by kernel_rfl) ?_ | refine stop ?_)
        all_goals refine Stop.mk ?_
        · have hr64 : r > 64 := by assumption
          refine Stop.mk (hK1 _ _ ?_)
          clear hK1
          repeat' ((fail_if_success with_reducible refine Stop.mk ?_); (conv => whnf); with_reducible first | refine br_t ?_ | refine br_f ?_ | refine br_nn ?_ | refine br_ns ?_ | refine br_not ?_ | refine br_d (fun h => ?_) (fun h => ?_) | refine br_e (fun h => ?_) (fun h => ?_) | refine br_n (fun h => ?_) (fun h => ?_) | refine drw (by kernel_rfl) ?_ | refine chk (by kernel_rfl) ?_ | refine stop ?_)
          all_goals refine Stop.mk ?_
          refine fin_id hE 0 rfl rfl rfl rfl ⟨15, rfl, ⟨fun h9 => absurd h9 (by decide), fun h9 => ?_⟩, rfl, rfl⟩
          exact absurd (hwinj.1 hr64) (((okMCode_iff _ _ _).1 (h9.2.2.2.2.2 b hbm).1).2 j hj64 (by omega))
        · have hr64 : ¬ r > 64 := by assumption
          rw [hw3]
          refine tell_gc hE [0, 1] rfl rfl ?_
          (conv => whnf)
          refine tell_here ⟨j + 1, ⟨by omega, ?_, ?_⟩, by show b.code.length - (j + 1) < b.code.length - j; omega, rfl, rfl, ?_⟩
          · intro x hx
            rw [List.take_add_one, hi] at hx
            rcases List.mem_append.1 hx with hx | hx
            · exact hchk x hx
            · simp at hx; subst hx; exact hgood
          · intro k' h1 h2
            rcases Nat.lt_succ_iff_lt_or_eq.1 h2 with h3 | h3
            · exact hwin k' h1 h3
            · subst h3
              exact fun h9 => hr64 (hwinj.2 h9)
          ·
            refine ⟨?_⟩
            (conv => whnf)
            (repeat' (first | exact trivial | exact .inl rfl | exact .inr rfl | refine And.intro ?_ ?_))
      · have he0 : e = 0 := by assumption
        have hgood := he.1 he0
        rw [hw3]
        refine tell_gc hE [0, 1] rfl rfl ?_
        (conv => whnf)
        refine tell_here ⟨j + 1, ⟨by omega, ?_, ?_⟩, by show b.code.length - (j + 1) < b.code.length - j; omega, rfl, rfl, ?_⟩
        · intro x hx
          rw [List.take_add_one, hi] at hx
          rcases List.mem_append.1 hx with hx | hx
          · exact hchk x hx
          · simp at hx; subst hx; exact hgood
        · intro k' h1 h2
          rcases Nat.lt_succ_iff_lt_or_eq.1 h2 with h3 | h3
          · exact hwin k' h1 h3
          · subst h3
            omega
        ·
          refine ⟨?_⟩
          (conv => whnf)
          (repeat' (first | exact trivial | exact .inl rfl | exact .inr rfl | refine And.intro ?_ ?_))
    · have hjl : j = b.code.length := by omega
      subst hjl
      rw [List.take_length] at hchk
      refine Stop.mk (hK1 _ _ ?_)
      clear hK1
      repeat' ((fail_if_success with_reducible refine Stop.mk ?_); (conv => whnf); with_reducible first | refine br_t ?_ | refine br_f ?_ | refine br_nn ?_ | refine br_ns ?_ | refine br_not ?_ | refine br_d (fun h => ?_) (fun h => ?_) | refine br_e (fun h => ?_) (fun h => ?_) | refine br_n (fun h => ?_) (fun h => ?_) | refine drw (by kernel_rfl) ?_ | refine chk (by kernel_rfl) ?_ | refine stop ?_)
      all_goals refine Stop.mk ?_
      refine call_fn [] (r7Term_fn _ b.term f.regs f.blocks.length) rfl trivial (by decide) ?_
      rintro sv H' G' ⟨e, rfl, he, rfl, rfl⟩ -
      refine ⟨Nat.le_of_ble_eq_true rfl, ?_⟩
      repeat' ((fail_if_success with_reducible refine Stop.mk ?_); (conv => whnf); with_reducible first | refine br_t ?_ | refine br_f ?_ | refine br_nn ?_ | refine br_ns ?_ | refine br_not ?_ | refine br_d (fun h => ?_) (fun h => ?_) | refine br_e (fun h => ?_) (fun h => ?_) | refine br_n (fun h => ?_) (fun h => ?_) | refine drw (by kernel_rfl) ?_ | refine chk (by kernel_rfl) ?_ | refine stop ?_)
      all_goals refine Stop.mk ?_
      rotate_left
      · have hne : e ≠ 0 := by assumption
        refine fin_id hE 0 rfl rfl rfl rfl ⟨e, rfl, ⟨fun h9 => absurd h9 hne, fun h9 => ?_⟩, rfl, rfl⟩
        exact he.2 (h9.2.2.2.2.2 b hbm).2
      · have he0 : e = 0 := by assumption
        have hgood := he.1 he0
        rw [hw2]
        refine tell_gc hE [0] rfl rfl ?_
        (conv => whnf)
        refine tell_here ⟨k + 1, ⟨by omega, ?_⟩, by show f.blocks.length - (k + 1) < f.blocks.length - k; omega, rfl, rfl, ?_⟩
        · intro x hx
          rw [List.take_add_one, hb] at hx
          rcases List.mem_append.1 hx with hx | hx
          · exact hall x hx
          · simp at hx; subst hx; exact ⟨(okMCode_iff _ _ _).2 ⟨hchk, hwin⟩, hgood⟩
        ·
          refine ⟨?_⟩
          (conv => whnf)
          (repeat' (first | exact trivial | exact .inl rfl | exact .inr rfl | refine And.intro ?_ ?_))
  · have hkl : k = f.blocks.length := by omega
    subst hkl
    rw [List.take_length] at hall
    refine fin_id hE 0 rfl rfl rfl rfl ⟨0, rfl, ⟨fun _ => ⟨hbase.1, hbase.2.1, hbase.2.2.1, hbase.2.2.2.1, hbase.2.2.2.2, hall⟩, fun _ => rfl⟩, rfl, rfl⟩
end Go.Proofs.Ytkhajngpcgmpnaa.Cu

namespace Go.Proofs.Ytkhajngpcgmpnaa.Cu
open Go Go.SX Go.Proofs.Ytkhajngpcgmpnaa.VT
set_option maxRecDepth 100000
set_option linter.unusedVariables false
set_option linter.unusedSimpArgs false
def exF : Fn := ⟨0, 1, [⟨[], ⟨3, 0, 0, 0⟩⟩]⟩
def exFB : List Int := [0, 1, 1, 0, 3, 0]
theorem exF_tr : trmsB exF.blocks := by intro b hb; simp [exF] at hb; subst hb; decide
end Go.Proofs.Ytkhajngpcgmpnaa.Cu

namespace Go.Proofs.Ytkhajngpcgmpnaa.Cu
open Go Go.SX Go.Proofs.Ytkhajngpcgmpnaa.VT
set_option maxRecDepth 100000
set_option linter.unusedVariables false
set_option linter.unusedSimpArgs false

theorem flat_isb {α : Type} (f : α → List Int) : ∀ (l : List α), (∀ x ∈ l, isB (f x)) → isB (l.map f).flatten
  | [], _ => isB_nil
  | x :: l, h => by
    simp only [List.map_cons, List.flatten_cons]
    exact isB_app2 (h x (by simp)) (flat_isb f l fun y hy => h y (by simp [hy]))
theorem flat_le {α : Type} (f : α → List Int) (b : Nat) : ∀ (l : List α), (∀ x ∈ l, (f x).length ≤ b) → ((l.map f).flatten).length ≤ b * l.length
  | [], _ => by simp
  | x :: l, h => by
    have h1 := flat_le f b l fun y hy => h y (by simp [hy])
    have h2 := h x (by simp)
    simp only [List.map_cons, List.flatten_cons, List.length_append, List.length_cons, Nat.mul_add]
    omega
theorem wBs_le : ∀ (l : List Blk), (wBs l).length ≤ 41 * l.length + 41 * totB l
  | [] => by simp [wBs]
  | b :: l => by
    have h1 := wBs_le l
    have h2 : (encCode b.code).length ≤ 41 * b.code.length := by rw [encCode_eq]; exact flat_le putInsB 41 b.code fun x _ => (putInsB_len x).2
    have h3 := putB_len b.code.length
    have h4 := (putTrmB_len b.term).2
    have h5 : (encB b).length = (putB b.code.length).length + (encCode b.code).length + (putTrmB b.term).length := by unfold encB; simp only [List.length_append]
    unfold wBs at *
    simp only [List.map_cons, List.flatten_cons, List.length_append, List.length_cons, totB, Nat.mul_add]
    omega
theorem wMBs_le : ∀ (l : List MBlk), (wMBs l).length ≤ 41 * l.length + 61 * totMB l
  | [] => by simp [wMBs]
  | b :: l => by
    have h1 := wMBs_le l
    have h2 : (encMCode b.code).length ≤ 61 * b.code.length := by rw [encMCode_eq]; exact flat_le putMacB 61 b.code fun x _ => (putMacB_len x).2
    have h3 := putB_len b.code.length
    have h4 := (putTrmB_len b.term).2
    have h5 : (encMB b).length = (putB b.code.length).length + (encMCode b.code).length + (putTrmB b.term).length := by unfold encMB; simp only [List.length_append]
    unfold wMBs at *
    simp only [List.map_cons, List.flatten_cons, List.length_append, List.length_cons, totMB, Nat.mul_add]
    omega
theorem encB_isb {b : Blk} (h : ∀ i ∈ b.code, in64 i.imm) (hl : b.code.length < 18446744073709551616) : isB (encB b) := by
  unfold encB
  rw [encCode_eq]
  exact isB_app2 (isB_app2 (putB_isb _ hl) (flat_isb _ _ fun i hi => putInsB_isb i (h i hi))) (putTrmB_isb _)
theorem encMB_isb {b : MBlk} (h : ∀ i ∈ b.code, in64 i.imm) (hl : b.code.length < 18446744073709551616) : isB (encMB b) := by
  unfold encMB
  rw [encMCode_eq]
  exact isB_app2 (isB_app2 (putB_isb _ hl) (flat_isb _ _ fun i hi => putMacB_isb i (h i hi))) (putTrmB_isb _)
theorem pU_nn (n : Int) (h : 0 ≤ n ∧ n < 18446744073709551616) : pU n = putB n.toNat := by unfold pU; rw [u64_in (by omega) (by omega)]
theorem wFn_eq {f : Fn} (h : okFn f) : wFn f = encFn f := by
  obtain ⟨⟨⟨h1, h2⟩, h3⟩, _⟩ := h
  unfold wFn encFn wBs encBs
  rw [pU_nn _ ⟨h1, by omega⟩, pU_nn _ ⟨by omega, by omega⟩, encBs_eq']
theorem wMFn_eq {f : MFn} (h : okMFn f) : wMFn f = encMFn f := by
  obtain ⟨⟨⟨h1, h2⟩, ⟨h3, h3'⟩, h4⟩, _⟩ := h
  unfold wMFn encMFn wMBs encMBs
  rw [pU_nn _ ⟨h1, by omega⟩, pU_nn _ ⟨h3, by omega⟩, pU_nn f.slots ⟨by omega, by omega⟩, encMBs_eq']
end Go.Proofs.Ytkhajngpcgmpnaa.Cu

namespace Go.Proofs.Ytkhajngpcgmpnaa.Cu
open Go Go.SX Go.Proofs.Ytkhajngpcgmpnaa.VT
set_option maxRecDepth 100000
set_option linter.unusedVariables false
set_option linter.unusedSimpArgs false
theorem okMFn_isb {f : MFn} (h : okMFn f) : isB (wMBs f.blocks) := by
  obtain ⟨_, ⟨h1, h2, _⟩, h3, h4, h5, h6⟩ := (okMFn_iff f).1 h
  unfold wMBs
  refine flat_isb _ _ fun b hb => encMB_isb (fun i hi => (okMac_ok (((okMCode_iff _ _ _).1 (h6 b hb).1).1 i hi) (by omega)).2.2.2.2.1) ?_
  obtain ⟨k, hk⟩ := List.getElem?_of_mem hb
  have h7 := totMB_take f.blocks k b hk
  have h8 := totMB_le f.blocks (k + 1)
  omega
theorem mfn_no {p : Ps} (h : (sMFnR p).2.2 ≠ 0) : (sMFnR p).1 = mfn0 := by
  unfold sMFnR at h ⊢
  dsimp only at h ⊢
  rw [if_neg h]
end Go.Proofs.Ytkhajngpcgmpnaa.Cu

namespace Go.Proofs.Ytkhajngpcgmpnaa.Cu
open Go Go.SX Go.Proofs.Ytkhajngpcgmpnaa.VT
set_option maxRecDepth 100000
set_option linter.unusedVariables false
set_option linter.unusedSimpArgs false
theorem sFnR_suf (p : Ps) : (sFnR p).2.1 <:+ p.1 := (sBody_suf _ _).trans (sHead_suf p)
theorem sMFnR_suf (p : Ps) : (sMFnR p).2.1 <:+ p.1 := (sMBody_suf _ _ _).trans (sMHead_suf p)
theorem okFn_ops {f : Fn} (h : okFn f) : opsB f.blocks := by
  obtain ⟨_, _, _, _, _, h6⟩ := (okFn_iff f).1 h
  intro b hb i hi
  exact ((h6 b hb).1 i hi).1.2
theorem okFn_trm {f : Fn} (h : okFn f) : trmsB f.blocks := by
  obtain ⟨_, _, _, _, _, h6⟩ := (okFn_iff f).1 h
  intro b hb
  exact (h6 b hb).2.1
theorem okMFn_trm {f : MFn} (h : okMFn f) : trmsM f.blocks := by
  obtain ⟨_, _, _, _, _, h6⟩ := (okMFn_iff f).1 h
  intro b hb
  exact (h6 b hb).2.1
theorem wFn_wBs (f : Fn) : (wBs f.blocks).length ≤ (wFn f).length := by unfold wFn; simp only [List.length_append]; omega
theorem wMFn_wMBs (f : MFn) : (wMBs f.blocks).length ≤ (wMFn f).length := by unfold wMFn; simp only [List.length_append]; omega
theorem okFn_n {f : Fn} (h : okFn f) : f.blocks.length ≤ 1048576 ∧ totB f.blocks ≤ 1048576 := by
  obtain ⟨_, _, _, h4, h5, _⟩ := (okFn_iff f).1 h
  exact ⟨h4, h5⟩
theorem okMFn_n {f : MFn} (h : okMFn f) : f.blocks.length ≤ 1048576 ∧ totMB f.blocks ≤ 1048576 := by
  obtain ⟨_, _, _, h4, h5, _⟩ := (okMFn_iff f).1 h
  exact ⟨h4, h5⟩
theorem wBs_ge : ∀ (l : List Blk), l.length ≤ (wBs l).length
  | [] => by simp
  | b :: l => by
    have h1 := wBs_ge l
    have h2 : 0 < (putB b.code.length).length := vput_len_pos 9 _
    have h5 : (encB b).length = (putB b.code.length).length + (encCode b.code).length + (putTrmB b.term).length := by unfold encB; simp only [List.length_append]
    unfold wBs at *
    simp only [List.map_cons, List.flatten_cons, List.length_append, List.length_cons]
    omega
theorem wMBs_ge : ∀ (l : List MBlk), l.length ≤ (wMBs l).length
  | [] => by simp
  | b :: l => by
    have h1 := wMBs_ge l
    have h2 : 0 < (putB b.code.length).length := vput_len_pos 9 _
    have h5 : (encMB b).length = (putB b.code.length).length + (encMCode b.code).length + (putTrmB b.term).length := by unfold encMB; simp only [List.length_append]
    unfold wMBs at *
    simp only [List.map_cons, List.flatten_cons, List.length_append, List.length_cons]
    omega
end Go.Proofs.Ytkhajngpcgmpnaa.Cu

namespace Go.Proofs.Ytkhajngpcgmpnaa.Cu
open Go Go.SX Go.Proofs.Ytkhajngpcgmpnaa.VT
set_option maxRecDepth 100000
set_option linter.unusedVariables false
set_option linter.unusedSimpArgs false
theorem okFn_isb {f : Fn} (h : okFn f) : isB (wBs f.blocks) := by
  obtain ⟨h0, h2, h3, h4, h5, h6⟩ := (okFn_iff f).1 h
  unfold wBs
  refine flat_isb _ _ fun b hb => encB_isb (fun i hi => (okIns_ok ((h6 b hb).1 i hi) (by omega)).2.2.2.2) ?_
  obtain ⟨k, hk⟩ := List.getElem?_of_mem hb
  have h7 := totB_take f.blocks k b hk
  have h8 := totB_le f.blocks (k + 1)
  omega
theorem wFn_isb {f : Fn} (h : okFn f) : isB (wFn f) := isB_app2 (isB_app2 (isB_app2 (pU_isb _) (pU_isb _)) (putB_isb _ (by have := okFn_n h; omega))) (okFn_isb h)
theorem wMFn_isb {f : MFn} (h : okMFn f) : isB (wMFn f) := isB_app2 (isB_app2 (isB_app2 (isB_app2 (pU_isb _) (pU_isb _)) (pU_isb _)) (putB_isb _ (by have := okMFn_n h; omega))) (okMFn_isb h)
theorem wFn_le (f : Fn) : (wFn f).length ≤ 40 + (wBs f.blocks).length := by
  have a1 := pU_len f.args
  have a2 := pU_len f.regs
  have a4 := putB_len f.blocks.length
  unfold wFn
  simp only [List.length_append]
  omega
theorem wMFn_le (f : MFn) : (wMFn f).length ≤ 40 + (wMBs f.blocks).length := by
  have a1 := pU_len f.args
  have a2 := pU_len f.regs
  have a3 := pU_len f.slots
  have a4 := putB_len f.blocks.length
  unfold wMFn
  simp only [List.length_append]
  omega
end Go.Proofs.Ytkhajngpcgmpnaa.Cu
