/- Source: the law that a changed unused field spoils a valid function. -/
import Derived.Test.YtglelcgllodhoaaSo6
import Derived.Test.YtglelcgllodhoaaSo7
import Derived.Test.YtglelcgllodhoaaKp2
namespace Go.Proofs.Ytglelcgllodhoaa.Cu
open Go Go.SX Go.Proofs.Ytglelcgllodhoaa.VT
set_option maxRecDepth 100000
set_option linter.unusedVariables false
set_option linter.unusedSimpArgs false
def spoil (i : Ins) (v : Int) : Ins := if uB i.op then { i with imm := v } else { i with b := v }
theorem spoil_e {regs v : Int} {i : Ins} (h : eIns regs i = 0) (hv : v ≠ 0) : eIns regs (spoil i v) = 12 := by
  unfold eIns at h
  by_cases hk : known i.op ∧ i.op ≠ 18
  case neg => rw [if_neg hk] at h; simp at h
  rw [if_pos hk] at h
  by_cases hw : wOk (fI regs i) = true
  case neg => rw [if_neg hw] at h; simp at h
  rw [if_pos hw] at h
  by_cases hb : bOk (fI regs i) = true ∧ (i.op = 1 ∨ i.imm = 0)
  case neg => rw [if_neg hb] at h; simp at h
  unfold spoil
  by_cases hu : uB i.op
  · rw [if_pos hu]
    unfold eIns
    have e1 : fI regs { i with imm := v } = fI regs i := rfl
    rw [if_pos (show known i.op ∧ i.op ≠ 18 from hk), e1, if_pos hw, if_neg]
    rintro ⟨_, h1 | h1⟩
    · unfold uB at hu; dsimp only at h1; omega
    · exact hv h1
  · rw [if_neg hu]
    unfold eIns
    rw [if_pos (show known i.op ∧ i.op ≠ 18 from hk), if_pos, if_neg]
    · rintro ⟨h1, _⟩
      simp [bOk, fI, hu] at h1
      exact hv h1.2.2
    · simp [wOk, fI, hu] at hw ⊢
      exact hw
theorem totB_set : ∀ (l : List Blk) (i : Nat) (b b' : Blk), l[i]? = some b → b'.code.length = b.code.length → totB (l.set i b') = totB l
  | [], i, b, b', h, _ => by simp at h
  | x :: l, 0, b, b', h, hl => by
    simp at h; subst h
    simp [totB, hl]
  | x :: l, i + 1, b, b', h, hl => by
    have := totB_set l i b b' (by simpa using h) hl
    simp [totB, this]
theorem eFn_zero_iff {f : Fn} (h : eFn f = 0) : SBase f ∧ ∀ j, j < f.blocks.length → eAt (eBlk f.regs f.blocks.length) f.blocks j = 0 := by
  have hb : SBase f := by
    unfold eFn at h
    unfold SBase
    split at h
    · simp at h
    split at h
    · simp at h
    split at h
    · simp at h
    split at h
    · simp at h
    omega
  refine ⟨hb, ?_⟩
  rw [eFn_base hb] at h
  exact (firstN_iff _ _).1 h
theorem spoil_fn {f : Fn} (h : eFn f = 0) {i j : Nat} {b : Blk} {c : Ins} {v : Int} (hb : f.blocks[i]? = some b) (hc : b.code[j]? = some c) (hv : v ≠ 0) :
    eFn ⟨f.args, f.regs, f.blocks.set i ⟨b.code.set j (spoil c v), b.term⟩⟩ = 12 := by
  obtain ⟨hS, h0⟩ := eFn_zero_iff h
  have hil : i < f.blocks.length := (List.getElem?_eq_some_iff.1 hb).1
  have hjl : j < b.code.length := (List.getElem?_eq_some_iff.1 hc).1
  have hS' : SBase ⟨f.args, f.regs, f.blocks.set i ⟨b.code.set j (spoil c v), b.term⟩⟩ := by
    obtain ⟨h1, h2, h3, h4, h5⟩ := hS
    refine ⟨h1, h2, by simpa using h3, by simpa using h4, ?_⟩
    dsimp only
    rw [totB_set f.blocks i b _ hb (by simp)]
    exact h5
  have hb0 := h0 i hil
  rw [eAt_is hb] at hb0
  have hcode : first0 (eIns f.regs) b.code = 0 := by
    unfold eBlk at hb0
    by_cases h9 : first0 (eIns f.regs) b.code = 0
    · exact h9
    · rw [if_pos h9] at hb0; exact absurd hb0 h9
  have hcode' := (firstN_iff _ _).1 hcode
  have hc0 : eIns f.regs c = 0 := by have := hcode' j hjl; rwa [eAt_is hc] at this
  have hs := spoil_e hc0 hv
  have hblk : eBlk f.regs ((f.blocks.set i ⟨b.code.set j (spoil c v), b.term⟩).length : Nat) ⟨b.code.set j (spoil c v), b.term⟩ = 12 := by
    rw [eBlk_code (j := j) (i := spoil c v) (by simp [hjl]) (fun k hk => ?_) (by rw [hs]; decide), hs]
    have := hcode' k (by omega)
    unfold eAt at this ⊢
    rw [List.getElem?_set_ne (by omega)]
    exact this
  rw [eFn_at hS' (k := i) (b := ⟨b.code.set j (spoil c v), b.term⟩) (by simp [hil]) (fun k hk => ?_) (by dsimp only; rw [hblk]; decide)]
  · exact hblk
  · have := h0 k (by omega)
    dsimp only
    unfold eAt at this ⊢
    rw [List.getElem?_set_ne (by omega), List.length_set]
    exact this
theorem All2.of_get {α β : Type} {R : α → β → Prop} : ∀ {xs : List α} {ys : List β}, xs.length = ys.length → (∀ (i : Nat) x y, xs[i]? = some x → ys[i]? = some y → R x y) → All2 R xs ys
  | [], [], _, _ => trivial
  | x :: xs, y :: ys, hl, h => ⟨h 0 x y rfl rfl, All2.of_get (by simpa using hl) fun i a b ha hb => h (i + 1) a b (by simpa using ha) (by simpa using hb)⟩
  | [], _ :: _, hl, _ => by simp at hl
  | _ :: _, [], hl, _ => by simp at hl
/-- A store into the code of one block of a copy. -/
theorem cpy_upd {G0 G1 G' G2 : Gh} {A : Option Addr} {a : Addr} {c ci i n : Nat} {l : List Blk} {css : List (List Value)} {b : Blk} {r rest : List Value} {code' : List Ins}
    (hR : All2 ((kOwn G0).R G1) l css) (hSl : Sl G' A l.length c 5 css.flatten) (hg1 : Ghe G1 G') (hfr : Fresh G1 A) (hdj : css.Pairwise Dsj)
    (hb : l[i]? = some b) (hr : css[i]? = some r) (hre : r = .slice (some a) n ci :: rest) (hoff : Off a.block G' G2) (hk : ∃ o, G1 a.block = some o) (hS2 : kIns.S G2 (some a) ci code') (hl : code'.length = b.code.length) :
    kBlk.S G2 A c (l.set i ⟨code', b.term⟩) := by
  have hlen := hR.len
  refine ⟨css, All2.of_get (by rw [List.length_set, hlen]) fun m x y hx hy => ?_, ?_⟩
  · have hml : m < l.length := by have := (List.getElem?_eq_some_iff.1 hy).1; omega
    obtain ⟨y', hy', hRm⟩ := hR.get m l[m] (List.getElem?_eq_getElem hml)
    obtain rfl := Option.some.inj (hy'.symm.trans hy)
    obtain ⟨Am, cm, hre', hSm, hok⟩ := kBlk_R hRm.1
    by_cases hmi : i = m
    · subst hmi
      rw [List.getElem?_set_self hml] at hx
      cases hx
      obtain rfl := Option.some.inj (hr.symm.trans hy')
      rw [hre] at hre'
      have hlm : l[i] = b := by rw [List.getElem?_eq_getElem hml] at hb; exact Option.some.inj hb
      rw [hlm] at hre' hok hSm
      simp only [List.cons.injEq, Value.slice.injEq] at hre'
      obtain ⟨⟨rfl, rfl, rfl⟩, rfl⟩ := hre'
      exact ⟨some a, ci, by rw [hre, hl], hS2, hok⟩
    · rw [List.getElem?_set_ne hmi, List.getElem?_eq_getElem hml] at hx
      cases hx
      refine ⟨Am, cm, hre', ?_, hok⟩
      obtain ⟨cs, hc1, hc2⟩ := hSm
      refine ⟨cs, hc1, hoff.sl (hc2.to hg1) fun ad had => ?_⟩
      have hil : i < css.length := (List.getElem?_eq_some_iff.1 hr).1
      have hmc : m < css.length := (List.getElem?_eq_some_iff.1 hy').1
      have e1 : css[i] = r := by rw [List.getElem?_eq_getElem hil] at hr; exact Option.some.inj hr
      have e2 : css[m] = y' := by rw [List.getElem?_eq_getElem hmc] at hy'; exact Option.some.inj hy'
      rcases Nat.lt_or_ge i m with h1 | h1
      · have := List.pairwise_iff_getElem.1 hdj i m hil hmc h1
        rw [e1, e2] at this
        exact (this _ _ _ _ _ _ _ _ hre hre' a ad rfl had).symm
      · have := List.pairwise_iff_getElem.1 hdj m i hmc hil (by omega)
        rw [e1, e2] at this
        exact this _ _ _ _ _ _ _ _ hre' hre ad a had rfl
  · rw [List.length_set]
    refine hoff.sl hSl fun ad had e => ?_
    obtain ⟨o, ho⟩ := hk
    have := hfr ad had
    rw [e, ho] at this; cases this
theorem Whl.known {G : Gh} {a : Addr} {xs : List Value} (h : Whl G (some a) xs) : ∃ o, G a.block = some o := by
  obtain ⟨_, _, cur, T, h3, _⟩ := h a rfl
  exact ⟨_, h3⟩
theorem flat_set {w : Nat} : ∀ (css : List (List Value)) (k o : Nat) (r : List Value) (u : Value), (∀ x ∈ css, x.length = w) → css[k]? = some r → o < w → (css.set k (r.set o u)).flatten = css.flatten.set (k * w + o) u
  | [], k, o, r, u, _, h, _ => by simp at h
  | x :: css, 0, o, r, u, hl, h, ho => by
    simp at h; subst h
    have := hl x (by simp)
    simp only [List.set_cons_zero, List.flatten_cons, Nat.zero_mul, Nat.zero_add]
    rw [List.set_append_left _ _ (by omega)]
  | x :: css, k + 1, o, r, u, hl, h, ho => by
    have hx := hl x (by simp)
    have ih := flat_set css k o r u (fun y hy => hl y (by simp [hy])) (by simpa using h) ho
    simp only [List.set_cons_succ, List.flatten_cons, ih]
    rw [List.set_append_right _ _ (by rw [Nat.add_mul]; omega), show (k + 1) * w + o - x.length = k * w + o by rw [Nat.add_mul]; omega]
theorem Sl.uniq {G : Gh} {A : Option Addr} {n c sz : Nat} {xs ys : List Value} (h : Sl G A n c sz xs) (h' : Sl G A n c sz ys) : xs = ys := by
  have hl : xs.length = ys.length := by rw [h.len, h'.len]
  refine List.ext_getElem hl fun i h1 h2 => ?_
  cases A with
  | none =>
    have := (h.nil rfl).1
    subst this
    have := h.len
    omega
  | some ad =>
    have e1 := h.there ad rfl i xs[i] (List.getElem?_eq_getElem h1)
    have e2 := h'.there ad rfl i ys[i] (List.getElem?_eq_getElem h2)
    rw [e1] at e2
    exact Option.some.inj e2
/-- Where the instruction's field lies. -/
def spoilO (i : Ins) : Nat := if uB i.op then 4 else 3
theorem spoil_l (i : Ins) (v : Int) : i64s (spoil i v).l = (i64s i.l).set (spoilO i) (.int .i64 v) := by
  unfold spoil spoilO
  by_cases h : uB i.op
  · rw [if_pos h, if_pos h]; rfl
  · rw [if_neg h, if_neg h]; rfl
theorem spoil_ok {i : Ins} {v : Int} (h : i.ok) (hv : in64 v) : (spoil i v).ok := by
  unfold spoil
  obtain ⟨h1, h2, h3, h4, h5⟩ := h
  split
  · exact ⟨h1, h2, h3, h4, hv⟩
  · exact ⟨h1, h2, h3, hv, h5⟩
theorem th_ex {E : Env} {G : Gh} {A : Option Addr} {ad adf : Addr} {xs : List Value} {j0 fld : Nat} (u : Value) (hW : Whl G A xs) (hE : ∀ a, A = some a → E.G0 a.block = none) (hadr : ∃ a0, A = some a0 ∧ ad = a0.add j0) (hadf : adf = ad.add fld) (hj : j0 + fld < xs.length) (hu : u.oneCell' = true) :
    ∃ (a : Addr) (cs : Array Value) (T' : TypeId), A = some a ∧ G adf.block = some (.cells cs T' (0, 0)) ∧ E.G0 adf.block = none ∧ adf.spot = none ∧ adf.off < cs.size ∧
      Whl (putG G adf.block (.cells (cs.toList.set adf.off u).toArray T' (0, 0))) (some a) (xs.set (j0 + fld) u) ∧ Off a.block G (putG G adf.block (.cells (cs.toList.set adf.off u).toArray T' (0, 0))) := by
  obtain ⟨a0, rfl, rfl⟩ := hadr
  obtain ⟨cs, T', h1, h2, h3, h4, _, h5⟩ := th_vc (ad := adf) (fr := []) (Hs := []) (K := fun s => Whl s.G (some a0) (xs.set (j0 + fld) u) ∧ Off a0.block G s.G) hW (hE a0 rfl) hj (by rw [hadf, Go.Deep.add_add]) hu (fun G' h6 h7 => ⟨h6, h7⟩)
  exact ⟨a0, cs, T', rfl, h1, h2, h3, h4, h5⟩
theorem All2.set_ {α β : Type} {R : α → β → Prop} {x : α} {y : β} (hxy : R x y) : ∀ {xs : List α} {ys : List β} (k : Nat), All2 R xs ys → All2 R (xs.set k x) (ys.set k y)
  | [], [], k, _ => by simp [All2]
  | a :: xs, b :: ys, 0, h => by simp only [List.set_cons_zero]; exact ⟨hxy, h.2⟩
  | a :: xs, b :: ys, k + 1, h => by simp only [List.set_cons_succ]; exact ⟨h.1, All2.set_ hxy k h.2⟩
  | [], _ :: _, _, h => h.elim
  | _ :: _, [], _, h => h.elim
theorem ins_upd {G G4 : Gh} {A : Option Addr} {a : Addr} {ci k n : Nat} {code : List Ins} {css2 : List (List Value)} {ic x : Ins} {o : Nat} {u : Value} (hI1 : All2 (kIns.R G) code css2) (hI2 : Sl G A n ci 5 css2.flatten) (hn : n = code.length)
    (hk : code[k]? = some ic) (ho : o < 5) (hx : i64s x.l = (i64s ic.l).set o u) (hok : x.ok) (hu : u.oneCell' = true) (hW : Whl G4 (some a) (css2.flatten.set (k * 5 + o) u)) : kIns.S G4 (some a) ci (code.set k x) := by
  subst hn
  obtain ⟨_, hr2, rfl, hicok⟩ := hI1.get k ic hk
  have hrl2 : ∀ r ∈ css2, r.length = 5 := kIns.rows_len hI1
  have hfl := flat_set css2 k o _ u hrl2 hr2 ho
  refine ⟨css2.set k (i64s x.l), All2.set_ (R := kIns.R G4) ⟨rfl, hok⟩ k (hI1.imp fun _ _ h => h), ?_⟩
  rw [hx, hfl]
  have hcap := hI2.cap
  refine hW.sl ?_ (by rw [List.length_set]; exact hcap) hI2.top (fun h => by cases h) fun v hv => ?_
  · rw [List.length_set, List.length_set, hI2.len]; rfl
  · rcases List.mem_or_eq_of_mem_set hv with h | rfl
    · exact hI2.ones v h
    · exact hu
set_option maxHeartbeats 8000000 in
theorem sspoils_fn (G : Gh) (A : Option Addr) (c : Nat) (f : Fn) (hf : kBlk.S G A c f.blocks) (at_ v : Int) (hat : 0 ≤ at_ ∧ at_ ≤ 65535) (hvr : in64 v) :
    Ct Try.prog 6 [fnS A c f, .v (.int .u16 at_), .v (.int .i64 v)] [] G fun sv H' G' => sv = .v (.bool true) ∧ H' = [] := by
  refine fn_ofG follows [] Try.func6 rfl rfl fun E hE hE0 => ?_
  unfold fnS
  repeat' ((fail_if_success with_reducible refine Stop.mk ?_); (conv => whnf); with_reducible first | refine br_t ?_ | refine br_f ?_ | refine br_nn ?_ | refine br_ns ?_ | refine br_not ?_ | refine br_d (fun h => ?_) (fun h => ?_) | refine br_e (fun h => ?_) (fun h => ?_) | refine br_n (fun h => ?_) (fun h => ?_) | refine drw (by kernel_rfl) ?_ | refine chk (by kernel_rfl) ?_ | refine stop ?_)
  all_goals refine Stop.mk ?_
  refine call_fn [] (awake07_fn _) rfl trivial (by decide) ?_
  rintro sv H' G1 ⟨rfl, rfl⟩ hg1
  refine ⟨Nat.le_of_ble_eq_true rfl, ?_⟩
  have hf1 := hf.to hg1
  repeat' ((fail_if_success with_reducible refine Stop.mk ?_); (conv => whnf); with_reducible first | refine br_t ?_ | refine br_f ?_ | refine br_nn ?_ | refine br_ns ?_ | refine br_not ?_ | refine br_d (fun h => ?_) (fun h => ?_) | refine br_e (fun h => ?_) (fun h => ?_) | refine br_n (fun h => ?_) (fun h => ?_) | refine drw (by kernel_rfl) ?_ | refine chk (by kernel_rfl) ?_ | refine stop ?_)
  all_goals refine Stop.mk ?_
  refine call_fn [] (few7_fn _ A c f hf1) rfl trivial (by decide) ?_
  rintro sv H' G' ⟨⟨r, rfl, hfew⟩, rfl, rfl⟩ -
  refine ⟨Nat.le_of_ble_eq_true rfl, ?_⟩
  cases r
  ·
    repeat' ((fail_if_success with_reducible refine Stop.mk ?_); (conv => whnf); with_reducible first | refine br_t ?_ | refine br_f ?_ | refine br_nn ?_ | refine br_ns ?_ | refine br_not ?_ | refine br_d (fun h => ?_) (fun h => ?_) | refine br_e (fun h => ?_) (fun h => ?_) | refine br_n (fun h => ?_) (fun h => ?_) | refine drw (by kernel_rfl) ?_ | refine chk (by kernel_rfl) ?_ | refine stop ?_)
    all_goals refine Stop.mk ?_
    refine call_fn [] (awake07_fn _) rfl trivial (by decide) ?_
    rintro sv H' G' ⟨rfl, rfl⟩ -
    refine ⟨Nat.le_of_ble_eq_true rfl, ?_⟩
    repeat' ((fail_if_success with_reducible refine Stop.mk ?_); (conv => whnf); with_reducible first | refine br_t ?_ | refine br_f ?_ | refine br_nn ?_ | refine br_ns ?_ | refine br_not ?_ | refine br_d (fun h => ?_) (fun h => ?_) | refine br_e (fun h => ?_) (fun h => ?_) | refine br_n (fun h => ?_) (fun h => ?_) | refine drw (by kernel_rfl) ?_ | refine chk (by kernel_rfl) ?_ | refine stop ?_)
    all_goals refine Stop.mk ?_
    exact fin_id hE 0 rfl rfl rfl rfl ⟨rfl, rfl⟩
  obtain ⟨hf3, hf4, hf5⟩ := hfew rfl
  clear hfew
  repeat' ((fail_if_success with_reducible refine Stop.mk ?_); (conv => whnf); with_reducible first | refine br_t ?_ | refine br_f ?_ | refine br_nn ?_ | refine br_ns ?_ | refine br_not ?_ | refine br_d (fun h => ?_) (fun h => ?_) | refine br_e (fun h => ?_) (fun h => ?_) | refine br_n (fun h => ?_) (fun h => ?_) | refine drw (by kernel_rfl) ?_ | refine chk (by kernel_rfl) ?_ | refine stop ?_)
  all_goals refine Stop.mk ?_
  refine call_fn [] (check7E_fn _ A c f hf1 (by omega) (by omega)) rfl trivial (by decide) ?_
  rintro sv H' G1 ⟨rfl, rfl, rfl⟩ -
  refine ⟨Nat.le_of_ble_eq_true rfl, ?_⟩
  generalize hef : eFn f = e at *
  repeat' ((fail_if_success with_reducible refine Stop.mk ?_); (conv => whnf); with_reducible first | refine br_t ?_ | refine br_f ?_ | refine br_nn ?_ | refine br_ns ?_ | refine br_not ?_ | refine br_d (fun h => ?_) (fun h => ?_) | refine br_e (fun h => ?_) (fun h => ?_) | refine br_n (fun h => ?_) (fun h => ?_) | refine drw (by kernel_rfl) ?_ | refine chk (by kernel_rfl) ?_ | refine stop ?_)
  all_goals refine Stop.mk ?_
  all_goals try
    refine call_fn [] (awake07_fn _) rfl trivial (by decide) ?_
    rintro sv H' G' ⟨rfl, rfl⟩ -
    refine ⟨Nat.le_of_ble_eq_true rfl, ?_⟩
    repeat' ((fail_if_success with_reducible refine Stop.mk ?_); (conv => whnf); with_reducible first | refine br_t ?_ | refine br_f ?_ | refine br_nn ?_ | refine br_ns ?_ | refine br_not ?_ | refine br_d (fun h => ?_) (fun h => ?_) | refine br_e (fun h => ?_) (fun h => ?_) | refine br_n (fun h => ?_) (fun h => ?_) | refine drw (by kernel_rfl) ?_ | refine chk (by kernel_rfl) ?_ | refine stop ?_)
    all_goals refine Stop.mk ?_
    exact fin_id hE 0 rfl rfl rfl rfl ⟨rfl, rfl⟩
  have he0 : e = 0 := by omega
  subst he0
  refine call_fn [] (copy7_fn _ A c f hf1 (by omega) (by omega)) rfl trivial (by decide) ?_
  rintro sv H' G2 ⟨⟨A2, c2, rfl, hcp⟩, rfl⟩ hg2
  refine ⟨Nat.le_of_ble_eq_true rfl, ?_⟩
  have hl2 := hcp.blk
  unfold fnS
  repeat' ((fail_if_success with_reducible refine Stop.mk ?_); (conv => whnf); with_reducible first | refine br_t ?_ | refine br_f ?_ | refine br_nn ?_ | refine br_ns ?_ | refine br_not ?_ | refine br_d (fun h => ?_) (fun h => ?_) | refine br_e (fun h => ?_) (fun h => ?_) | refine br_n (fun h => ?_) (fun h => ?_) | refine drw (by kernel_rfl) ?_ | refine chk (by kernel_rfl) ?_ | refine stop ?_)
  all_goals refine Stop.mk ?_
  refine call_fn [] (code7_fn _ A2 c2 f hl2 (by omega) (by omega)) rfl trivial (by decide) ?_
  rintro sv H' G' ⟨rfl, rfl, rfl⟩ -
  refine ⟨Nat.le_of_ble_eq_true rfl, ?_⟩
  repeat' ((fail_if_success with_reducible refine Stop.mk ?_); (conv => whnf); with_reducible first | refine br_t ?_ | refine br_f ?_ | refine br_nn ?_ | refine br_ns ?_ | refine br_not ?_ | refine br_d (fun h => ?_) (fun h => ?_) | refine br_e (fun h => ?_) (fun h => ?_) | refine br_n (fun h => ?_) (fun h => ?_) | refine drw (by kernel_rfl) ?_ | refine chk (by kernel_rfl) ?_ | refine stop ?_)
  all_goals refine Stop.mk ?_
  · exact fin_id hE 0 rfl rfl rfl rfl ⟨rfl, rfl⟩
  refine ⟨by omega, ?_⟩
  repeat' ((fail_if_success with_reducible refine Stop.mk ?_); (conv => whnf); with_reducible first | refine br_t ?_ | refine br_f ?_ | refine br_nn ?_ | refine br_ns ?_ | refine br_not ?_ | refine br_d (fun h => ?_) (fun h => ?_) | refine br_e (fun h => ?_) (fun h => ?_) | refine br_n (fun h => ?_) (fun h => ?_) | refine drw (by kernel_rfl) ?_ | refine chk (by kernel_rfl) ?_ | refine stop ?_)
  all_goals refine Stop.mk ?_
  have hn0 : (totB f.blocks : Int) ≠ 0 := by assumption
  have ek : (IntKind.i64.wrap at_).tmod (totB f.blocks : Int) = ((at_.toNat % totB f.blocks : Nat) : Int) := by
    rw [i64_in (by omega) (by omega), Int.tmod_eq_emod_of_nonneg (by omega)]; push_cast; rw [Int.toNat_of_nonneg (by omega)]
  have hklt : at_.toNat % totB f.blocks < totB f.blocks := Nat.mod_lt _ (by omega)
  rw [ek]
  generalize at_.toNat % totB f.blocks = k0 at *
  obtain ⟨css, Gc, hR, hSl, hg01, hg1', hfr, hdj⟩ := hcp.rows
  have hrl : ∀ r ∈ css, r.length = 5 := (kOwn G1).rows_len hR
  have hcap := hSl.cap
  refine loop_opq fun K0 hK0 => ?_
  refine loop_vars follows [] (α := Nat × Nat) (fun x => [(9, .v (.int .i64 x.1)), (10, .v (.int .i64 x.2))])
    (fun x => [.cells 46 [.v (.int .i64 f.args), .v (.int .i64 f.regs), .v (.slice A f.blocks.length c)], .cells 46 [.v (.int .i64 f.args), .v (.int .i64 f.regs), .v (.slice A2 f.blocks.length c2)]]) (fun x => G')
    (fun x => x.2 ≤ f.blocks.length ∧ x.1 + totB (f.blocks.take x.2) = k0) (fun x => f.blocks.length - x.2) (k0, 0)
    ⟨Nat.zero_le _, by simp [totB]⟩ rfl rfl ?_ ?_
  ·
    refine ⟨?_⟩
    (conv => whnf)
    (repeat' (first | exact trivial | exact .inl rfl | exact .inr rfl | refine And.intro ?_ ?_))
  rintro ⟨k, i⟩ ⟨hi, hki⟩
  dsimp only at hi hki ⊢
  have hw2 : IntKind.i64.wrap ((i : Int) + 1) = ((i + 1 : Nat) : Int) := by rw [i64_in (by omega) (by omega)]; simp
  repeat' ((fail_if_success with_reducible refine Stop.mk ?_); (conv => whnf); with_reducible first | refine br_t ?_ | refine br_f ?_ | refine br_nn ?_ | refine br_ns ?_ | refine br_not ?_ | refine br_d (fun h => ?_) (fun h => ?_) | refine br_e (fun h => ?_) (fun h => ?_) | refine br_n (fun h => ?_) (fun h => ?_) | refine drw (by kernel_rfl) ?_ | refine chk (by kernel_rfl) ?_ | refine stop ?_)
  all_goals refine Stop.mk ?_
  rotate_left
  · exfalso
    have hil : i = f.blocks.length := by omega
    subst hil
    rw [List.take_length] at hki
    omega
  have hil : i < f.blocks.length := by omega
  obtain ⟨b, hb⟩ : ∃ b, f.blocks[i]? = some b := ⟨_, List.getElem?_eq_getElem hil⟩
  obtain ⟨r, hr, hRb, Ai, ci, xs, rest, rfl, hfA, hWA, hSA⟩ := hR.get i b hb
  have htk := totB_take f.blocks i b hb
  have htl := totB_le f.blocks (i + 1)
  refine ⟨⟨by omega, by omega⟩, _, hSl, fun ad1 had1 _ => ?_⟩
  rw [Int.toNat_natCast, fget css hrl i _ hr] at had1
  repeat' ((fail_if_success with_reducible refine Stop.mk ?_); (conv => whnf); with_reducible first | refine br_t ?_ | refine br_f ?_ | refine br_nn ?_ | refine br_ns ?_ | refine br_not ?_ | refine br_d (fun h => ?_) (fun h => ?_) | refine br_e (fun h => ?_) (fun h => ?_) | refine br_n (fun h => ?_) (fun h => ?_) | refine drw (by kernel_rfl) ?_ | refine chk (by kernel_rfl) ?_ | refine stop ?_)
  all_goals refine Stop.mk ?_
  refine ⟨_, had1 0 _ rfl, ?_⟩
  repeat' ((fail_if_success with_reducible refine Stop.mk ?_); (conv => whnf); with_reducible first | refine br_t ?_ | refine br_f ?_ | refine br_nn ?_ | refine br_ns ?_ | refine br_not ?_ | refine br_d (fun h => ?_) (fun h => ?_) | refine br_e (fun h => ?_) (fun h => ?_) | refine br_n (fun h => ?_) (fun h => ?_) | refine drw (by kernel_rfl) ?_ | refine chk (by kernel_rfl) ?_ | refine stop ?_)
  all_goals refine Stop.mk ?_
  · refine ⟨⟨by omega, by omega⟩, _, hSl, fun ad2 had2 _ => ?_⟩
    rw [Int.toNat_natCast, fget css hrl i _ hr] at had2
    repeat' ((fail_if_success with_reducible refine Stop.mk ?_); (conv => whnf); with_reducible first | refine br_t ?_ | refine br_f ?_ | refine br_nn ?_ | refine br_ns ?_ | refine br_not ?_ | refine br_d (fun h => ?_) (fun h => ?_) | refine br_e (fun h => ?_) (fun h => ?_) | refine br_n (fun h => ?_) (fun h => ?_) | refine drw (by kernel_rfl) ?_ | refine chk (by kernel_rfl) ?_ | refine stop ?_)
    all_goals refine Stop.mk ?_
    refine ⟨_, had2 0 _ rfl, ?_⟩
    repeat' ((fail_if_success with_reducible refine Stop.mk ?_); (conv => whnf); with_reducible first | refine br_t ?_ | refine br_f ?_ | refine br_nn ?_ | refine br_ns ?_ | refine br_not ?_ | refine br_d (fun h => ?_) (fun h => ?_) | refine br_e (fun h => ?_) (fun h => ?_) | refine br_n (fun h => ?_) (fun h => ?_) | refine drw (by kernel_rfl) ?_ | refine chk (by kernel_rfl) ?_ | refine stop ?_)
    all_goals refine Stop.mk ?_
    have hw3 : IntKind.i64.wrap ((k : Int) - (b.code.length : Int)) = ((k - b.code.length : Nat) : Int) := by rw [i64_in (by omega) (by omega)]; omega
    rw [hw2, hw3]
    refine tell_here ⟨(k - b.code.length, i + 1), ⟨by show i + 1 ≤ _; omega, by show k - b.code.length + totB (f.blocks.take (i + 1)) = k0; omega⟩, by show f.blocks.length - (i + 1) < f.blocks.length - i; omega, rfl, rfl, ?_⟩
    refine ⟨?_⟩
    (conv => whnf)
    (repeat' (first | exact trivial | exact .inl rfl | exact .inr rfl | refine And.intro ?_ ?_))
  refine ⟨⟨by omega, by omega⟩, _, hSl, fun ad2 had2 _ => ?_⟩
  rw [Int.toNat_natCast, fget css hrl i _ hr] at had2
  repeat' ((fail_if_success with_reducible refine Stop.mk ?_); (conv => whnf); with_reducible first | refine br_t ?_ | refine br_f ?_ | refine br_nn ?_ | refine br_ns ?_ | refine br_not ?_ | refine br_d (fun h => ?_) (fun h => ?_) | refine br_e (fun h => ?_) (fun h => ?_) | refine br_n (fun h => ?_) (fun h => ?_) | refine drw (by kernel_rfl) ?_ | refine chk (by kernel_rfl) ?_ | refine stop ?_)
  all_goals refine Stop.mk ?_
  refine ⟨_, had2 0 _ rfl, ?_⟩
  have hkl : k < b.code.length := by omega
  obtain ⟨A', c', hre', hSi, hbt⟩ := kBlk_R hRb
  simp only [List.cons.injEq, Value.slice.injEq] at hre'
  obtain ⟨⟨rfl, _, rfl⟩, rfl⟩ := hre'
  obtain ⟨css2, hI1, hI2⟩ := hSi
  obtain rfl : xs = css2.flatten := Sl.uniq hSA hI2
  have hrl2 : ∀ r ∈ css2, r.length = 5 := kIns.rows_len hI1
  obtain ⟨ic, hic⟩ : ∃ x, b.code[k]? = some x := ⟨_, List.getElem?_eq_getElem hkl⟩
  obtain ⟨_, hr2, rfl, hicok⟩ := hI1.get k ic hic
  have hI2' := hI2.to hg1'
  have hcap2 := hI2.cap
  repeat' ((fail_if_success with_reducible refine Stop.mk ?_); (conv => whnf); with_reducible first | refine br_t ?_ | refine br_f ?_ | refine br_nn ?_ | refine br_ns ?_ | refine br_not ?_ | refine br_d (fun h => ?_) (fun h => ?_) | refine br_e (fun h => ?_) (fun h => ?_) | refine br_n (fun h => ?_) (fun h => ?_) | refine drw (by kernel_rfl) ?_ | refine chk (by kernel_rfl) ?_ | refine stop ?_)
  all_goals refine Stop.mk ?_
  refine ⟨⟨by omega, by omega⟩, _, hI2', fun ad3 had3 _ => ?_⟩
  rw [Int.toNat_natCast, fget css2 hrl2 k _ hr2] at had3
  repeat' ((fail_if_success with_reducible refine Stop.mk ?_); (conv => whnf); with_reducible first | refine br_t ?_ | refine br_f ?_ | refine br_nn ?_ | refine br_ns ?_ | refine br_not ?_ | refine br_d (fun h => ?_) (fun h => ?_) | refine br_e (fun h => ?_) (fun h => ?_) | refine br_n (fun h => ?_) (fun h => ?_) | refine drw (by kernel_rfl) ?_ | refine chk (by kernel_rfl) ?_ | refine stop ?_)
  all_goals refine Stop.mk ?_
  refine ⟨_, rfl, had3, ?_⟩
  repeat' ((fail_if_success with_reducible refine Stop.mk ?_); (conv => whnf); with_reducible first | refine br_t ?_ | refine br_f ?_ | refine br_nn ?_ | refine br_ns ?_ | refine br_not ?_ | refine br_d (fun h => ?_) (fun h => ?_) | refine br_e (fun h => ?_) (fun h => ?_) | refine br_n (fun h => ?_) (fun h => ?_) | refine drw (by kernel_rfl) ?_ | refine chk (by kernel_rfl) ?_ | refine stop ?_)
  all_goals refine Stop.mk ?_
  refine call_fn [] (of_fn _ ic.op) rfl trivial (by decide) ?_
  rintro sv H' G3 ⟨rfl, rfl, rfl⟩ -
  refine ⟨Nat.le_of_ble_eq_true rfl, ?_⟩
  unfold shp
  have huD : uB ic.op → uD ic.op := fun h9 => by unfold uB at h9; unfold uD; omega
  have hG0 : ∀ a, Ai = some a → E.G0 a.block = none := fun a ha => by rw [hE0]; exact fresh_of hg1 hfA a ha
  by_cases hu : uB ic.op
  · rw [decide_eq_true hu, decide_eq_true (huD hu)]
    repeat' ((fail_if_success with_reducible refine Stop.mk ?_); (conv => whnf); with_reducible first | refine br_t ?_ | refine br_f ?_ | refine br_nn ?_ | refine br_ns ?_ | refine br_not ?_ | refine br_d (fun h => ?_) (fun h => ?_) | refine br_e (fun h => ?_) (fun h => ?_) | refine br_n (fun h => ?_) (fun h => ?_) | refine drw (by kernel_rfl) ?_ | refine chk (by kernel_rfl) ?_ | refine stop ?_)
    all_goals refine Stop.mk ?_
    refine ⟨⟨by omega, by omega⟩, _, hSl, fun ad4 had4 _ => ?_⟩
    rw [Int.toNat_natCast, fget css hrl i _ hr] at had4
    repeat' ((fail_if_success with_reducible refine Stop.mk ?_); (conv => whnf); with_reducible first | refine br_t ?_ | refine br_f ?_ | refine br_nn ?_ | refine br_ns ?_ | refine br_not ?_ | refine br_d (fun h => ?_) (fun h => ?_) | refine br_e (fun h => ?_) (fun h => ?_) | refine br_n (fun h => ?_) (fun h => ?_) | refine drw (by kernel_rfl) ?_ | refine chk (by kernel_rfl) ?_ | refine stop ?_)
    all_goals refine Stop.mk ?_
    refine ⟨_, had4 0 _ rfl, ?_⟩
    repeat' ((fail_if_success with_reducible refine Stop.mk ?_); (conv => whnf); with_reducible first | refine br_t ?_ | refine br_f ?_ | refine br_nn ?_ | refine br_ns ?_ | refine br_not ?_ | refine br_d (fun h => ?_) (fun h => ?_) | refine br_e (fun h => ?_) (fun h => ?_) | refine br_n (fun h => ?_) (fun h => ?_) | refine drw (by kernel_rfl) ?_ | refine chk (by kernel_rfl) ?_ | refine stop ?_)
    all_goals refine Stop.mk ?_
    refine ⟨⟨by omega, by omega⟩, _, hI2', fun ad5 had5 hadr => ?_⟩
    rw [Int.toNat_natCast] at hadr
    repeat' ((fail_if_success with_reducible refine Stop.mk ?_); (conv => whnf); with_reducible first | refine br_t ?_ | refine br_f ?_ | refine br_nn ?_ | refine br_ns ?_ | refine br_not ?_ | refine br_d (fun h => ?_) (fun h => ?_) | refine br_e (fun h => ?_) (fun h => ?_) | refine br_n (fun h => ?_) (fun h => ?_) | refine drw (by kernel_rfl) ?_ | refine chk (by kernel_rfl) ?_ | refine stop ?_)
    all_goals refine Stop.mk ?_
    obtain ⟨a, cs3, T3, hA0, hv1, hv2, hv3, hv4, hW4, hoff⟩ := th_ex (E := E) (.int .i64 v) (hWA.to hg1') hG0 hadr rfl (fld := 4) (by rw [hI2.len]; show k * 5 + 4 < b.code.length * 5; omega) rfl
    refine ⟨cs3, T3, hv1, hv2, hv3, hv4, rfl, ?_⟩
    clear hv1 hv2 hv3 hv4
    generalize putG _ _ _ = G4 at *
    have hS4 := ins_upd (x := spoil ic v) hI1 hI2 rfl hic (by decide) (by rw [spoil_l]; unfold spoilO; rw [if_pos hu]) (spoil_ok hicok hvr) rfl hW4
    have hl4 := cpy_upd hR hSl hg1' hfr hdj hb hr (by rw [hA0]) hoff (Whl.known (by rw [← hA0]; exact hWA)) hS4 (by rw [List.length_set])
    have hf4 := hf.to (hoff.ghe (fun b o ho => hg2 b o (hg1 b o ho)) (by rw [← hE0]; exact hG0 a hA0))
    have hck := srcCheck_fn G4 A2 c2 ⟨f.args, f.regs, f.blocks.set i ⟨b.code.set k (spoil ic v), b.term⟩⟩ hl4 (by dsimp only; rw [List.length_set]; omega) (by dsimp only; rw [totB_set f.blocks i b _ hb (by simp)]; omega)
    rw [spoil_fn hef hb hic (by assumption)] at hck
    unfold fnS at hck
    dsimp only at hck
    rw [List.length_set] at hck
    repeat' ((fail_if_success with_reducible refine Stop.mk ?_); (conv => whnf); with_reducible first | refine br_t ?_ | refine br_f ?_ | refine br_nn ?_ | refine br_ns ?_ | refine br_not ?_ | refine br_d (fun h => ?_) (fun h => ?_) | refine br_e (fun h => ?_) (fun h => ?_) | refine br_n (fun h => ?_) (fun h => ?_) | refine drw (by kernel_rfl) ?_ | refine chk (by kernel_rfl) ?_ | refine stop ?_)
    all_goals refine Stop.mk ?_
    refine Stop.mk (hK0 _ _ ?_)
    clear hK0
    repeat' ((fail_if_success with_reducible refine Stop.mk ?_); (conv => whnf); with_reducible first | refine br_t ?_ | refine br_f ?_ | refine br_nn ?_ | refine br_ns ?_ | refine br_not ?_ | refine br_d (fun h => ?_) (fun h => ?_) | refine br_e (fun h => ?_) (fun h => ?_) | refine br_n (fun h => ?_) (fun h => ?_) | refine drw (by kernel_rfl) ?_ | refine chk (by kernel_rfl) ?_ | refine stop ?_)
    all_goals refine Stop.mk ?_
    refine call_fn [] hck rfl trivial (by decide) ?_
    rintro sv H' G5 ⟨rfl, rfl⟩ hg5
    refine ⟨Nat.le_of_ble_eq_true rfl, ?_⟩
    repeat' ((fail_if_success with_reducible refine Stop.mk ?_); (conv => whnf); with_reducible first | refine br_t ?_ | refine br_f ?_ | refine br_nn ?_ | refine br_ns ?_ | refine br_not ?_ | refine br_d (fun h => ?_) (fun h => ?_) | refine br_e (fun h => ?_) (fun h => ?_) | refine br_n (fun h => ?_) (fun h => ?_) | refine drw (by kernel_rfl) ?_ | refine chk (by kernel_rfl) ?_ | refine stop ?_)
    all_goals refine Stop.mk ?_
    all_goals try (exfalso; first | exact h rfl | exact h (by decide))
    refine call_fn [] (srcCheck_fn _ A c f (hf4.to hg5) (by omega) (by omega)) rfl trivial (by decide) ?_
    rintro sv H' G6 ⟨rfl, rfl⟩ -
    refine ⟨Nat.le_of_ble_eq_true rfl, ?_⟩
    rw [hef]
    repeat' ((fail_if_success with_reducible refine Stop.mk ?_); (conv => whnf); with_reducible first | refine br_t ?_ | refine br_f ?_ | refine br_nn ?_ | refine br_ns ?_ | refine br_not ?_ | refine br_d (fun h => ?_) (fun h => ?_) | refine br_e (fun h => ?_) (fun h => ?_) | refine br_n (fun h => ?_) (fun h => ?_) | refine drw (by kernel_rfl) ?_ | refine chk (by kernel_rfl) ?_ | refine stop ?_)
    all_goals refine Stop.mk ?_
    all_goals try (exfalso; first | exact h rfl | exact h (by decide))
    exact fin_id hE 0 rfl rfl rfl rfl ⟨rfl, rfl⟩
  · rw [decide_eq_false hu]
    repeat' ((fail_if_success with_reducible refine Stop.mk ?_); (conv => whnf); with_reducible first | refine br_t ?_ | refine br_f ?_ | refine br_nn ?_ | refine br_ns ?_ | refine br_not ?_ | refine br_d (fun h => ?_) (fun h => ?_) | refine br_e (fun h => ?_) (fun h => ?_) | refine br_n (fun h => ?_) (fun h => ?_) | refine drw (by kernel_rfl) ?_ | refine chk (by kernel_rfl) ?_ | refine stop ?_)
    all_goals refine Stop.mk ?_
    refine ⟨⟨by omega, by omega⟩, _, hSl, fun ad4 had4 _ => ?_⟩
    rw [Int.toNat_natCast, fget css hrl i _ hr] at had4
    repeat' ((fail_if_success with_reducible refine Stop.mk ?_); (conv => whnf); with_reducible first | refine br_t ?_ | refine br_f ?_ | refine br_nn ?_ | refine br_ns ?_ | refine br_not ?_ | refine br_d (fun h => ?_) (fun h => ?_) | refine br_e (fun h => ?_) (fun h => ?_) | refine br_n (fun h => ?_) (fun h => ?_) | refine drw (by kernel_rfl) ?_ | refine chk (by kernel_rfl) ?_ | refine stop ?_)
    all_goals refine Stop.mk ?_
    refine ⟨_, had4 0 _ rfl, ?_⟩
    repeat' ((fail_if_success with_reducible refine Stop.mk ?_); (conv => whnf); with_reducible first | refine br_t ?_ | refine br_f ?_ | refine br_nn ?_ | refine br_ns ?_ | refine br_not ?_ | refine br_d (fun h => ?_) (fun h => ?_) | refine br_e (fun h => ?_) (fun h => ?_) | refine br_n (fun h => ?_) (fun h => ?_) | refine drw (by kernel_rfl) ?_ | refine chk (by kernel_rfl) ?_ | refine stop ?_)
    all_goals refine Stop.mk ?_
    refine ⟨⟨by omega, by omega⟩, _, hI2', fun ad5 had5 hadr => ?_⟩
    rw [Int.toNat_natCast] at hadr
    repeat' ((fail_if_success with_reducible refine Stop.mk ?_); (conv => whnf); with_reducible first | refine br_t ?_ | refine br_f ?_ | refine br_nn ?_ | refine br_ns ?_ | refine br_not ?_ | refine br_d (fun h => ?_) (fun h => ?_) | refine br_e (fun h => ?_) (fun h => ?_) | refine br_n (fun h => ?_) (fun h => ?_) | refine drw (by kernel_rfl) ?_ | refine chk (by kernel_rfl) ?_ | refine stop ?_)
    all_goals refine Stop.mk ?_
    obtain ⟨a, cs3, T3, hA0, hv1, hv2, hv3, hv4, hW4, hoff⟩ := th_ex (E := E) (.int .i64 v) (hWA.to hg1') hG0 hadr rfl (fld := 3) (by rw [hI2.len]; show k * 5 + 3 < b.code.length * 5; omega) rfl
    refine ⟨cs3, T3, hv1, hv2, hv3, hv4, rfl, ?_⟩
    clear hv1 hv2 hv3 hv4
    generalize putG _ _ _ = G4 at *
    have hS4 := ins_upd (x := spoil ic v) hI1 hI2 rfl hic (by decide) (by rw [spoil_l]; unfold spoilO; rw [if_neg hu]) (spoil_ok hicok hvr) rfl hW4
    have hl4 := cpy_upd hR hSl hg1' hfr hdj hb hr (by rw [hA0]) hoff (Whl.known (by rw [← hA0]; exact hWA)) hS4 (by rw [List.length_set])
    have hf4 := hf.to (hoff.ghe (fun b o ho => hg2 b o (hg1 b o ho)) (by rw [← hE0]; exact hG0 a hA0))
    have hck := srcCheck_fn G4 A2 c2 ⟨f.args, f.regs, f.blocks.set i ⟨b.code.set k (spoil ic v), b.term⟩⟩ hl4 (by dsimp only; rw [List.length_set]; omega) (by dsimp only; rw [totB_set f.blocks i b _ hb (by simp)]; omega)
    rw [spoil_fn hef hb hic (by assumption)] at hck
    unfold fnS at hck
    dsimp only at hck
    rw [List.length_set] at hck
    repeat' ((fail_if_success with_reducible refine Stop.mk ?_); (conv => whnf); with_reducible first | refine br_t ?_ | refine br_f ?_ | refine br_nn ?_ | refine br_ns ?_ | refine br_not ?_ | refine br_d (fun h => ?_) (fun h => ?_) | refine br_e (fun h => ?_) (fun h => ?_) | refine br_n (fun h => ?_) (fun h => ?_) | refine drw (by kernel_rfl) ?_ | refine chk (by kernel_rfl) ?_ | refine stop ?_)
    all_goals refine Stop.mk ?_
    refine Stop.mk (hK0 _ _ ?_)
    clear hK0
    repeat' ((fail_if_success with_reducible refine Stop.mk ?_); (conv => whnf); with_reducible first | refine br_t ?_ | refine br_f ?_ | refine br_nn ?_ | refine br_ns ?_ | refine br_not ?_ | refine br_d (fun h => ?_) (fun h => ?_) | refine br_e (fun h => ?_) (fun h => ?_) | refine br_n (fun h => ?_) (fun h => ?_) | refine drw (by kernel_rfl) ?_ | refine chk (by kernel_rfl) ?_ | refine stop ?_)
    all_goals refine Stop.mk ?_
    refine call_fn [] hck rfl trivial (by decide) ?_
    rintro sv H' G5 ⟨rfl, rfl⟩ hg5
    refine ⟨Nat.le_of_ble_eq_true rfl, ?_⟩
    repeat' ((fail_if_success with_reducible refine Stop.mk ?_); (conv => whnf); with_reducible first | refine br_t ?_ | refine br_f ?_ | refine br_nn ?_ | refine br_ns ?_ | refine br_not ?_ | refine br_d (fun h => ?_) (fun h => ?_) | refine br_e (fun h => ?_) (fun h => ?_) | refine br_n (fun h => ?_) (fun h => ?_) | refine drw (by kernel_rfl) ?_ | refine chk (by kernel_rfl) ?_ | refine stop ?_)
    all_goals refine Stop.mk ?_
    all_goals try (exfalso; first | exact h rfl | exact h (by decide))
    refine call_fn [] (srcCheck_fn _ A c f (hf4.to hg5) (by omega) (by omega)) rfl trivial (by decide) ?_
    rintro sv H' G6 ⟨rfl, rfl⟩ -
    refine ⟨Nat.le_of_ble_eq_true rfl, ?_⟩
    rw [hef]
    repeat' ((fail_if_success with_reducible refine Stop.mk ?_); (conv => whnf); with_reducible first | refine br_t ?_ | refine br_f ?_ | refine br_nn ?_ | refine br_ns ?_ | refine br_not ?_ | refine br_d (fun h => ?_) (fun h => ?_) | refine br_e (fun h => ?_) (fun h => ?_) | refine br_n (fun h => ?_) (fun h => ?_) | refine drw (by kernel_rfl) ?_ | refine chk (by kernel_rfl) ?_ | refine stop ?_)
    all_goals refine Stop.mk ?_
    all_goals try (exfalso; first | exact h rfl | exact h (by decide))
    exact fin_id hE 0 rfl rfl rfl rfl ⟨rfl, rfl⟩
end Go.Proofs.Ytglelcgllodhoaa.Cu
