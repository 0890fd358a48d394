/- Functions: compared by the reference. -/
import Derived.Test.YtchebkpcgglllaaGreatFux
namespace Go.Proofs.YtchebkpcgglllaaGreat.Cu
open Go Go.SX Go.Proofs.YtchebkpcgglllaaGreat.VT
set_option maxRecDepth 100000
set_option linter.unusedVariables false
set_option linter.unusedSimpArgs false

theorem Gat_tail {G : Gh} {ad : Addr} {v : Value} {ys : List Value} (h : Gat G ad (v :: ys)) : Gat G (ad.add 1) ys := fun j w hj => by
  have := h (j + 1) w (by simpa using hj)
  rw [Go.Deep.add_add, Nat.add_comm 1 j]
  exact this
theorem ins_ext {x y : Ins} (h : [x.op, x.d, x.a, x.b, x.imm] = [y.op, y.d, y.a, y.b, y.imm]) : x = y := by
  obtain ⟨a, b, c, d, e⟩ := x
  obtain ⟨a', b', c', d', e'⟩ := y
  simp only [List.cons.injEq] at h
  obtain ⟨rfl, rfl, rfl, rfl, rfl, _⟩ := h
  rfl
theorem trm_ext {x y : Trm} (h : [x.kind, x.a, x.to_, x.els] = [y.kind, y.a, y.to_, y.els]) : x = y := by
  obtain ⟨a, b, c, d⟩ := x
  obtain ⟨a', b', c', d'⟩ := y
  simp only [List.cons.injEq] at h
  obtain ⟨rfl, rfl, rfl, rfl, _⟩ := h
  rfl
set_option maxHeartbeats 8000000 in
theorem same7_fn (G : Gh) (A B : Option Addr) (c d : Nat) (f g : Fn) (hl : kBlk.S G A c f.blocks) (hm : kBlk.S G B d g.blocks) :
    Ct Tryz.prog 50 [fnS A c f, fnS B d g] [] G fun sv H' G' => sv = .v (.bool (decide (f = g))) ∧ H' = [] ∧ G' = G := by
  refine fn_of follows [(6, (.cons 0 [] (.cons 1 [] (.cons 2 [] (.cons 3 [] (.cons 4 [] (.cons 5 [] (.cons 6 [] (.cons 7 [] (.cons 8 [] (.cons 9 [] (.cons 10 [] (.cons 11 [] (.cons 12 [] (.cons 13 [] (.cons 14 [] (.cons 15 [] (.cons 16 [] (.cons 17 [] (.cons 18 [] (.cons 19 [] (.cons 20 [] (.cons 21 [] (.cons 22 [] (.cons 23 [] (.cons 24 [] (.cons 25 [] (.cons 26 [] (.cons 27 [] (.cons 28 [] (.cons 29 [] .nil))))))))))))))))))))))))))))))), (11, (.cons 0 [] (.cons 1 [] (.cons 2 [] (.cons 3 [] (.cons 4 [] (.cons 5 [] (.cons 6 [] (.cons 7 [] (.cons 8 [] (.cons 9 [] (.cons 10 [] (.cons 11 [] (.cons 12 [] (.cons 13 [] (.cons 14 [] (.cons 15 [] (.cons 16 [] (.cons 17 [] (.cons 18 [] .nil))))))))))))))))))))] Tryz.func50 rfl rfl fun E hE => ?_
  have hcap := hl.cap
  have hcap2 := hm.cap
  unfold fnS
  repeat' ((fail_if_success with_reducible refine Stop.mk ?_);(conv=>whnf);with_reducible first|refine br_t ?_|refine br_n (fun h=>?_) fun h=>?_|refine stop ?_)
  all_goals refine Stop.mk ?_
  all_goals try
    refine fin_id hE 0 rfl rfl rfl rfl ⟨?_, rfl, rfl⟩
    rw [decide_eq_false]
    intro he
    subst he
    first
      | exact absurd rfl (by assumption)
      | omega
  have hlen : f.blocks.length = g.blocks.length := by omega
  have hone : f.blocks = g.blocks → f = g := by
    intro h9
    obtain ⟨a1, a2, a3⟩ := f
    obtain ⟨b1, b2, b3⟩ := g
    dsimp only at *
    subst h9
    have e1 : a1 = b1 := by assumption
    have e2 : a2 = b2 := by assumption
    rw [e1, e2]
  refine loop_vars follows [(6, (.cons 0 [] (.cons 1 [] (.cons 2 [] (.cons 3 [] (.cons 4 [] (.cons 5 [] (.cons 6 [] (.cons 7 [] (.cons 8 [] (.cons 9 [] (.cons 10 [] (.cons 11 [] (.cons 12 [] (.cons 13 [] (.cons 14 [] (.cons 15 [] (.cons 16 [] (.cons 17 [] (.cons 18 [] (.cons 19 [] (.cons 20 [] (.cons 21 [] (.cons 22 [] (.cons 23 [] (.cons 24 [] (.cons 25 [] (.cons 26 [] (.cons 27 [] (.cons 28 [] (.cons 29 [] .nil))))))))))))))))))))))))))))))), (11, (.cons 0 [] (.cons 1 [] (.cons 2 [] (.cons 3 [] (.cons 4 [] (.cons 5 [] (.cons 6 [] (.cons 7 [] (.cons 8 [] (.cons 9 [] (.cons 10 [] (.cons 11 [] (.cons 12 [] (.cons 13 [] (.cons 14 [] (.cons 15 [] (.cons 16 [] (.cons 17 [] (.cons 18 [] .nil))))))))))))))))))))] (α := Nat) (fun k => [(5, .v (.int .i64 k))]) (fun x => [.cells 25 [.v (.int .i64 f.args), .v (.int .i64 f.regs), .v (.slice A f.blocks.length c)], .cells 25 [.v (.int .i64 g.args), .v (.int .i64 g.regs), .v (.slice B g.blocks.length d)]]) (fun x => G) (fun k => k ≤ f.blocks.length ∧ f.blocks.take k = g.blocks.take k) (fun k => f.blocks.length - k) 0
    ⟨Nat.zero_le _, rfl⟩ rfl rfl ?_ ?_
  ·
    refine ⟨?_⟩
    (conv => whnf)
    (repeat' (first | exact trivial | exact .inl rfl | exact .inr rfl | refine And.intro ?_ ?_))
  intro k hI
  obtain ⟨hk, heq⟩ := hI
  have hw2 : k < f.blocks.length → IntKind.i64.wrap ((k : Int) + 1) = ((k + 1 : Nat) : Int) := fun h => by rw [i64_in (by omega) (by omega)]; simp
  repeat' ((fail_if_success with_reducible refine Stop.mk ?_);(conv=>whnf);with_reducible first|refine br_d (fun h=>?_) fun h=>?_|refine drw (by kernel_rfl) ?_|refine stop ?_)
  all_goals refine Stop.mk ?_
  ·
    obtain ⟨_, hs_, hat_⟩ := hl.at (sz := 5) rfl
    refine ⟨⟨by omega, by omega⟩, _, hs_, fun ad had hadr => ?_⟩
    obtain ⟨x, cells, hx, hRx, hGx⟩ := hat_ k (by omega) ad (by first | exact had | (rw [Int.toNat_natCast] at had; exact had))
    clear had hat_ hs_
    obtain ⟨A1, c1, rfl, hS1, ht1⟩ := kBlk_R hRx
    repeat' ((fail_if_success with_reducible refine Stop.mk ?_);(conv=>whnf);with_reducible refine stop ?_)
    all_goals refine Stop.mk ?_
    refine ⟨i64s x.term.l, rfl, Gat_tail hGx, ?_⟩
    repeat' ((fail_if_success with_reducible refine Stop.mk ?_);(conv=>whnf);with_reducible refine stop ?_)
    all_goals refine Stop.mk ?_
    obtain ⟨_, hs_, hat_⟩ := hm.at (sz := 5) rfl
    refine ⟨⟨by omega, by omega⟩, _, hs_, fun ad had hadr => ?_⟩
    obtain ⟨y, cells, hy, hRy, hGy⟩ := hat_ k (by omega) ad (by first | exact had | (rw [Int.toNat_natCast] at had; exact had))
    clear had hat_ hs_
    obtain ⟨Ay, cy, rfl, Sy, ty⟩ := kBlk_R hRy
    repeat' ((fail_if_success with_reducible refine Stop.mk ?_);(conv=>whnf);with_reducible refine stop ?_)
    all_goals refine Stop.mk ?_
    refine ⟨i64s y.term.l, rfl, Gat_tail hGy, ?_⟩
    repeat' ((fail_if_success with_reducible refine Stop.mk ?_);(conv=>whnf);with_reducible first|refine br_t ?_|refine br_not ?_|refine br_d (fun h=>?_) fun h=>?_|refine chk (by kernel_rfl) ?_|refine stop ?_)
    all_goals refine Stop.mk ?_
    rotate_left
    · refine fin_id hE 0 rfl rfl rfl rfl ⟨?_, rfl, rfl⟩
      rw [decide_eq_false]
      intro he
      subst he
      obtain rfl := Option.some.inj (hx.symm.trans hy)
      exact (by assumption : ¬ _) rfl
    have hterm : x.term = y.term := trm_ext h
    obtain ⟨_, hs_, hat_⟩ := hl.at (sz := 5) rfl
    refine ⟨⟨by omega, by omega⟩, _, hs_, fun ad had hadr => ?_⟩
    obtain ⟨u, cells, hu, hRu, hGu⟩ := hat_ k (by omega) ad (by first | exact had | (rw [Int.toNat_natCast] at had; exact had))
    clear had hat_ hs_
    obtain ⟨Au, cu, rfl, Su, tu⟩ := kBlk_R hRu
    obtain rfl := Option.some.inj (hx.symm.trans hu)
    repeat' ((fail_if_success with_reducible refine Stop.mk ?_);(conv=>whnf);with_reducible refine stop ?_)
    all_goals refine Stop.mk ?_
    refine ⟨_, hGu 0 _ rfl, ?_⟩
    repeat' ((fail_if_success with_reducible refine Stop.mk ?_);(conv=>whnf);with_reducible refine stop ?_)
    all_goals refine Stop.mk ?_
    obtain ⟨_, hs_, hat_⟩ := hm.at (sz := 5) rfl
    refine ⟨⟨by omega, by omega⟩, _, hs_, fun ad had hadr => ?_⟩
    obtain ⟨v, cells, hv, hRv, hGv⟩ := hat_ k (by omega) ad (by first | exact had | (rw [Int.toNat_natCast] at had; exact had))
    clear had hat_ hs_
    obtain ⟨Av, cv, rfl, Sv, tv⟩ := kBlk_R hRv
    obtain rfl := Option.some.inj (hy.symm.trans hv)
    repeat' ((fail_if_success with_reducible refine Stop.mk ?_);(conv=>whnf);with_reducible refine stop ?_)
    all_goals refine Stop.mk ?_
    refine ⟨_, hGv 0 _ rfl, ?_⟩
    repeat' ((fail_if_success with_reducible refine Stop.mk ?_);(conv=>whnf);with_reducible first|refine br_n (fun h=>?_) fun h=>?_|refine stop ?_)
    all_goals refine Stop.mk ?_
    rotate_left
    · refine fin_id hE 0 rfl rfl rfl rfl ⟨?_, rfl, rfl⟩
      rw [decide_eq_false]
      intro he
      subst he
      obtain rfl := Option.some.inj (hx.symm.trans hy)
      exact absurd rfl (by assumption)
    have hcl : x.code.length = y.code.length := by omega
    refine loop_opq fun K1 hK1 => ?_
    have hcc := hS1.cap
    refine loop_vars follows [(6, (.cons 0 [] (.cons 1 [] (.cons 2 [] (.cons 3 [] (.cons 4 [] (.cons 5 [] (.cons 6 [] (.cons 7 [] (.cons 8 [] (.cons 9 [] (.cons 10 [] (.cons 11 [] (.cons 12 [] (.cons 13 [] (.cons 14 [] (.cons 15 [] (.cons 16 [] (.cons 17 [] (.cons 18 [] (.cons 19 [] (.cons 20 [] (.cons 21 [] (.cons 22 [] (.cons 23 [] (.cons 24 [] (.cons 25 [] (.cons 26 [] (.cons 27 [] (.cons 28 [] (.cons 29 [] .nil))))))))))))))))))))))))))))))), (11, (.cons 0 [] (.cons 1 [] (.cons 2 [] (.cons 3 [] (.cons 4 [] (.cons 5 [] (.cons 6 [] (.cons 7 [] (.cons 8 [] (.cons 9 [] (.cons 10 [] (.cons 11 [] (.cons 12 [] (.cons 13 [] (.cons 14 [] (.cons 15 [] (.cons 16 [] (.cons 17 [] (.cons 18 [] .nil))))))))))))))))))))] (α := Nat) (fun k => [(6, .v (.int .i64 k))]) (fun x => [.cells 25 [.v (.int .i64 f.args), .v (.int .i64 f.regs), .v (.slice A f.blocks.length c)], .cells 25 [.v (.int .i64 g.args), .v (.int .i64 g.regs), .v (.slice B g.blocks.length d)]]) (fun x => G) (fun j => j ≤ x.code.length ∧ x.code.take j = y.code.take j) (fun j => x.code.length - j) 0
      ⟨Nat.zero_le _, rfl⟩ rfl rfl ?_ ?_
    ·
      refine ⟨?_⟩
      (conv => whnf)
      (repeat' (first | exact trivial | exact .inl rfl | exact .inr rfl | refine And.intro ?_ ?_))
    intro j hJ
    obtain ⟨hj, heq2⟩ := hJ
    have hw3 : j < x.code.length → IntKind.i64.wrap ((j : Int) + 1) = ((j + 1 : Nat) : Int) := fun h => by rw [i64_in (by omega) (by omega)]; simp
    repeat' ((fail_if_success with_reducible refine Stop.mk ?_);(conv=>whnf);with_reducible refine stop ?_)
    all_goals refine Stop.mk ?_
    obtain ⟨_, hs_, hat_⟩ := hl.at (sz := 5) rfl
    refine ⟨⟨by omega, by omega⟩, _, hs_, fun ad had hadr => ?_⟩
    obtain ⟨p, cells, hp, hRp, hGp⟩ := hat_ k (by omega) ad (by first | exact had | (rw [Int.toNat_natCast] at had; exact had))
    clear had hat_ hs_
    obtain ⟨Ap, cp, rfl, Sp, tp⟩ := kBlk_R hRp
    obtain rfl := Option.some.inj (hx.symm.trans hp)
    repeat' ((fail_if_success with_reducible refine Stop.mk ?_);(conv=>whnf);with_reducible refine stop ?_)
    all_goals refine Stop.mk ?_
    refine ⟨_, hGp 0 _ rfl, ?_⟩
    repeat' ((fail_if_success with_reducible refine Stop.mk ?_);(conv=>whnf);with_reducible first|refine br_d (fun h=>?_) fun h=>?_|refine drw (by kernel_rfl) ?_|refine stop ?_)
    all_goals refine Stop.mk ?_
    ·
      obtain ⟨_, hs_, hat_⟩ := hl.at (sz := 5) rfl
      refine ⟨⟨by omega, by omega⟩, _, hs_, fun ad had hadr => ?_⟩
      obtain ⟨q, cells, hq, hRq, hGq⟩ := hat_ k (by omega) ad (by first | exact had | (rw [Int.toNat_natCast] at had; exact had))
      clear had hat_ hs_
      obtain ⟨Aq, cq, rfl, Sq, tq⟩ := kBlk_R hRq
      obtain rfl := Option.some.inj (hx.symm.trans hq)
      repeat' ((fail_if_success with_reducible refine Stop.mk ?_);(conv=>whnf);with_reducible refine stop ?_)
      all_goals refine Stop.mk ?_
      refine ⟨_, hGq 0 _ rfl, ?_⟩
      repeat' ((fail_if_success with_reducible refine Stop.mk ?_);(conv=>whnf);with_reducible refine stop ?_)
      all_goals refine Stop.mk ?_
      obtain ⟨_, hs_, hat_⟩ := Sq.at (sz := 5) rfl
      refine ⟨⟨by omega, by omega⟩, _, hs_, fun ad had hadr => ?_⟩
      obtain ⟨e1, cells, he1, hRe1, hGe1⟩ := hat_ j (by omega) ad (by first | exact had | (rw [Int.toNat_natCast] at had; exact had))
      clear had hat_ hs_
      obtain ⟨rfl, ho1⟩ := hRe1
      repeat' ((fail_if_success with_reducible refine Stop.mk ?_);(conv=>whnf);with_reducible refine stop ?_)
      all_goals refine Stop.mk ?_
      refine ⟨_, rfl, hGe1, ?_⟩
      repeat' ((fail_if_success with_reducible refine Stop.mk ?_);(conv=>whnf);with_reducible refine stop ?_)
      all_goals refine Stop.mk ?_
      obtain ⟨_, hs_, hat_⟩ := hm.at (sz := 5) rfl
      refine ⟨⟨by omega, by omega⟩, _, hs_, fun ad had hadr => ?_⟩
      obtain ⟨r, cells, hr, hRr, hGr⟩ := hat_ k (by omega) ad (by first | exact had | (rw [Int.toNat_natCast] at had; exact had))
      clear had hat_ hs_
      obtain ⟨Ar, cr, rfl, Sr, tr⟩ := kBlk_R hRr
      obtain rfl := Option.some.inj (hy.symm.trans hr)
      repeat' ((fail_if_success with_reducible refine Stop.mk ?_);(conv=>whnf);with_reducible refine stop ?_)
      all_goals refine Stop.mk ?_
      refine ⟨_, hGr 0 _ rfl, ?_⟩
      repeat' ((fail_if_success with_reducible refine Stop.mk ?_);(conv=>whnf);with_reducible refine stop ?_)
      all_goals refine Stop.mk ?_
      obtain ⟨_, hs_, hat_⟩ := Sr.at (sz := 5) rfl
      refine ⟨⟨by omega, by omega⟩, _, hs_, fun ad had hadr => ?_⟩
      obtain ⟨e2, cells, he2, hRe2, hGe2⟩ := hat_ j (by omega) ad (by first | exact had | (rw [Int.toNat_natCast] at had; exact had))
      clear had hat_ hs_
      obtain ⟨rfl, ho2⟩ := hRe2
      repeat' ((fail_if_success with_reducible refine Stop.mk ?_);(conv=>whnf);with_reducible refine stop ?_)
      all_goals refine Stop.mk ?_
      refine ⟨_, rfl, hGe2, ?_⟩
      repeat' ((fail_if_success with_reducible refine Stop.mk ?_);(conv=>whnf);with_reducible first|refine br_not ?_|refine br_d (fun h=>?_) fun h=>?_|refine chk (by kernel_rfl) ?_|refine stop ?_)
      all_goals refine Stop.mk ?_
      rotate_left
      · have hne : ¬ [e1.op, e1.d, e1.a, e1.b, e1.imm] = [e2.op, e2.d, e2.a, e2.b, e2.imm] := h
        refine Stop.mk (hK1 _ _ ?_)
        clear hK1
        repeat' ((fail_if_success with_reducible refine Stop.mk ?_);(conv=>whnf);with_reducible refine stop ?_)
        all_goals refine Stop.mk ?_
        refine fin_id hE 0 rfl rfl rfl rfl ⟨?_, rfl, rfl⟩
        rw [decide_eq_false]
        intro he
        subst he
        obtain rfl := Option.some.inj (hx.symm.trans hy)
        obtain rfl := Option.some.inj (he1.symm.trans he2)
        exact hne rfl
      have hee : e1 = e2 := ins_ext h
      subst hee
      rw [hw3 (by omega)]
      refine tell_here ⟨j + 1, ⟨by omega, ?_⟩, by show x.code.length - (j + 1) < x.code.length - j; omega, rfl, rfl, ?_⟩
      · rw [List.take_add_one, List.take_add_one, heq2, he1, he2]
      ·
        refine ⟨?_⟩
        (conv => whnf)
        (repeat' (first | exact trivial | exact .inl rfl | exact .inr rfl | refine And.intro ?_ ?_))
    · have hjl : j = x.code.length := by omega
      subst hjl
      rw [List.take_length, hcl, List.take_length] at heq2
      have hxy : x = y := by
        obtain ⟨a1, a2⟩ := x
        obtain ⟨b1, b2⟩ := y
        dsimp only at heq2 hterm
        rw [heq2, hterm]
      refine Stop.mk (hK1 _ _ ?_)
      clear hK1
      repeat' ((fail_if_success with_reducible refine Stop.mk ?_);(conv=>whnf);with_reducible refine stop ?_)
      all_goals refine Stop.mk ?_
      rw [hw2 (by omega)]
      refine tell_here ⟨k + 1, ⟨by omega, ?_⟩, by show f.blocks.length - (k + 1) < f.blocks.length - k; omega, rfl, rfl, ?_⟩
      · rw [List.take_add_one, List.take_add_one, heq, hx, hy, hxy]
      ·
        refine ⟨?_⟩
        (conv => whnf)
        (repeat' (first | exact trivial | exact .inl rfl | exact .inr rfl | refine And.intro ?_ ?_))
  · have hkl : k = f.blocks.length := by omega
    subst hkl
    rw [List.take_length, hlen, List.take_length] at heq
    refine fin_id hE 0 rfl rfl rfl rfl ⟨?_, rfl, rfl⟩
    rw [decide_eq_true (hone heq)]
end Go.Proofs.YtchebkpcgglllaaGreat.Cu
