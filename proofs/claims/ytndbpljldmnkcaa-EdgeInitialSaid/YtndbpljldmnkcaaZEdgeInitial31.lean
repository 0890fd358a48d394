/- An initial pair holds for the initial values of both functions for all arguments; any other pair does not hold for arguments that are different and not 0. No condition. -/
import Derived.Test.YtndbpljldmnkcaaZEdgeInitial30
import Derived.Test.YtndbpljldmnkcaaZEdgeInitial29
namespace Go.Proofs.Ytndbpljldmnkcaa.LEdgeInitial
open Go.RowKit Go.Proofs.Ytndbpljldmnkcaa.PEdgeInitial Go.Proofs.YtndbpljldmnkcaaW.PrintWords Go.Proofs.YtndbpljldmnkcaaW.PrintLast Go.Proofs.Ytndbpljldmnkcaa.LT
theorem awake_is (k : Nat) (hk : 20 ≤ k) : regcertlaw15_awake.f k = some true := at_rounds regcertlaw15_awake.mono hk (show regcertlaw15_awake.f 20 = some true from by decide +kernel)
theorem ini_is (v l n : Int) (h0 : 0 ≤ v) (h1 : 0 ≤ l) (h2 : l ≤ 9223372036854775807) (h3 : n ≤ 1000) : edge_Initial.f v l n = some (decide ((v < n → l = 2 * v + 1) ∧ (¬ v < n → l % 2 = 1 → l / 2 ≥ n))) := by
  unfold edge_Initial.f location_Slot.f location_IsSlot.f location_Index.f
  by_cases c0 : v < n
  · rw [if_pos c0, w64 (2 * v) (by omega) (by omega), w64 _ (by omega) (by omega)]
    simp only [Option.bind_some, Option.some.injEq]
    rw [Bool.eq_iff_iff, beq_iff_eq, decide_eq_true_eq]
    constructor
    · intro h; exact ⟨fun _ => h, fun h' => absurd c0 h'⟩
    · intro h; exact h.1 c0
  · rw [if_neg c0, Int.tmod_eq_emod_of_nonneg h1, Int.tdiv_eq_ediv_of_nonneg h1, w64 _ (by omega) (by omega)]
    simp only [Option.bind_some, beq_iff_eq]
    by_cases c1 : l % 2 = 1
    · rw [if_pos c1]
      congr 1
      rw [decide_eq_decide]
      constructor
      · intro h; exact ⟨fun h' => absurd h' c0, fun _ _ => h⟩
      · intro h; exact h.2 c0 c1
    · rw [if_neg c1]
      congr 1
      exact (decide_eq_true ⟨fun h' => absurd h' c0, fun _ h' => absurd h' c1⟩).symm
end Go.Proofs.Ytndbpljldmnkcaa.LEdgeInitial
namespace Go.Proofs.Ytndbpljldmnkcaa.Pure
open Go.RowKit Go.Proofs.Ytndbpljldmnkcaa.PEdgeInitial Go.Proofs.YtndbpljldmnkcaaW.PrintWords Go.Proofs.YtndbpljldmnkcaaW.PrintLast Go.Proofs.Ytndbpljldmnkcaa.LT Go.Proofs.Ytndbpljldmnkcaa.LEdgeInitial
theorem ini_j4 (k : Nat) (n v l : Int) (is : Bool) (h0 : 0 ≤ v) (h1 : 0 ≤ l) (h2 : l ≤ 9223372036854775807) (hn0 : 0 ≤ n) (h3 : n ≤ 1000) (c : Bool) (hc : c = false)
    (his : is = decide ((v < n → l = 2 * v + 1) ∧ (¬ v < n → l % 2 = 1 → l / 2 ≥ n))) : regcertlaw15_EdgeInitial.j4 (k + 1) n is c v l = some true := by
  subst hc
  simp only [regcertlaw15_EdgeInitial.j4]
  rw [if_neg (by decide), Int.tmod_eq_emod_of_nonneg h1, Int.tdiv_eq_ediv_of_nonneg h1, w64 (l / 2) (by omega) (by omega), w64 (l / 2 + 1) (by omega) (by omega), his]
  by_cases c0 : v < n
  · rw [if_pos c0, w64 (v + 1) (by omega) (by omega)]
    by_cases c1 : l % 2 = 1
    · rw [if_pos c1]
      by_cases c2 : l / 2 < n
      · rw [if_pos c2]
        congr 1
        rw [beq_iff_eq, Bool.eq_iff_iff, beq_iff_eq, decide_eq_true_eq]
        constructor
        · intro h; have := h.1 c0; omega
        · intro h; exact ⟨fun _ => by omega, fun h' => absurd c0 h'⟩
      · rw [if_neg c2]
        congr 1
        rw [beq_iff_eq, Bool.eq_iff_iff, beq_iff_eq, decide_eq_true_eq]
        constructor
        · intro h; have := h.1 c0; omega
        · intro h; omega
    · rw [if_neg c1]
      congr 1
      rw [beq_iff_eq, Bool.eq_iff_iff, beq_iff_eq, decide_eq_true_eq]
      constructor
      · intro h; have := h.1 c0; omega
      · intro h; omega
  · rw [if_neg c0]
    by_cases c1 : l % 2 = 1
    · rw [if_pos c1]
      by_cases c2 : l / 2 < n
      · rw [if_pos c2]
        congr 1
        rw [beq_iff_eq, Bool.eq_iff_iff, beq_iff_eq, decide_eq_true_eq]
        constructor
        · intro h; have := h.2 c0 c1; omega
        · intro h; omega
      · rw [if_neg c2]
        congr 1
        rw [beq_iff_eq, Bool.eq_iff_iff, beq_iff_eq, decide_eq_true_eq]
        constructor
        · intro _; rfl
        · intro _; exact ⟨fun h' => absurd h' c0, fun _ _ => by omega⟩
    · rw [if_neg c1]
      congr 1
      rw [beq_iff_eq, Bool.eq_iff_iff, beq_iff_eq, decide_eq_true_eq]
      constructor
      · intro _; rfl
      · intro _; exact ⟨fun h' => absurd h' c0, fun _ h' => absurd h' c1⟩
theorem ini_j3 (k : Nat) (n v l x y : Int) (is : Bool) (h0 : 0 ≤ v) (h1 : 0 ≤ l) (h2 : l ≤ 9223372036854775807) (hn0 : 0 ≤ n) (h3 : n ≤ 1000) (hxy : is = true → x = y)
    (his : is = decide ((v < n → l = 2 * v + 1) ∧ (¬ v < n → l % 2 = 1 → l / 2 ≥ n))) : regcertlaw15_EdgeInitial.j3 (k + 2) n is x y v l = some true := by
  simp only [regcertlaw15_EdgeInitial.j3]
  by_cases c : is = true
  · rw [if_pos c]
    exact ini_j4 k n v l is h0 h1 h2 hn0 h3 _ (by rw [hxy c]; simp) his
  · rw [if_neg c]
    exact ini_j4 k n v l is h0 h1 h2 hn0 h3 _ rfl his
theorem ini_j1 (k : Nat) (n v l x : Int) (vs : List Int) (is : Bool) (h0 : 0 ≤ v) (h1 : 0 ≤ l) (h2 : l ≤ 9223372036854775807) (hn0 : 0 ≤ n) (h3 : n ≤ 1000) (hl : n ≤ (vs.length : Int)) (hx : x = if v < n then rd vs v else 0)
    (his : is = decide ((v < n → l = 2 * v + 1) ∧ (¬ v < n → l % 2 = 1 → l / 2 ≥ n))) : regcertlaw15_EdgeInitial.j1 (k + 4) vs n is x v l = some true := by
  simp only [regcertlaw15_EdgeInitial.j1]
  rw [Int.tmod_eq_emod_of_nonneg h1, Int.tdiv_eq_ediv_of_nonneg h1, w64 (l / 2) (by omega) (by omega)]
  by_cases c1 : l % 2 = 1
  · rw [if_pos c1]
    simp only [regcertlaw15_EdgeInitial.j2]
    rw [Int.tdiv_eq_ediv_of_nonneg h1, w64 (l / 2) (by omega) (by omega)]
    by_cases c2 : l / 2 < n
    · rw [if_pos (by simpa using c2), if_pos (by omega), if_pos (by omega)]
      refine ini_j3 k n v l x _ is h0 h1 h2 hn0 h3 (fun hi => ?_) his
      rw [his, decide_eq_true_eq] at hi
      by_cases c0 : v < n
      · rw [hx, if_pos c0]
        have := hi.1 c0
        rw [show l / 2 = v by omega]
      · have := hi.2 c0 c1; omega
    · rw [if_neg (by simpa using c2)]
      refine ini_j3 k n v l x _ is h0 h1 h2 hn0 h3 (fun hi => ?_) his
      rw [his, decide_eq_true_eq] at hi
      by_cases c0 : v < n
      · have := hi.1 c0; omega
      · rw [hx, if_neg c0]
  · rw [if_neg c1]
    simp only [regcertlaw15_EdgeInitial.j2]
    rw [if_neg (by decide)]
    refine ini_j3 k n v l x _ is h0 h1 h2 hn0 h3 (fun hi => ?_) his
    rw [his, decide_eq_true_eq] at hi
    by_cases c0 : v < n
    · have := hi.1 c0; omega
    · rw [hx, if_neg c0]
theorem EdgeInitial : regcertlaw15_EdgeInitial.Pure := by
  intro p a vs hp ha hvs
  obtain ⟨v, l⟩ := p
  obtain ⟨hv, hl⟩ := hp
  have hl := i64_of hl
  have hv := i64_of hv
  have ha : 0 ≤ a ∧ a ≤ 255 := by
    simp [Lit.wf, IntKind.min, IntKind.max, IntKind.signed, IntKind.bits] at ha
    omega
  simp only at hv hl
  refine ⟨30, ?_⟩
  have hT : ∀ b : Bool, b = true → regcertlaw15_EdgeInitial.j0 30 a vs b v l = some true := by
    intro b hb
    subst hb
    simp only [regcertlaw15_EdgeInitial.j0, if_true]
    rw [awake_is 29 (by decide)]; rfl
  unfold regcertlaw15_EdgeInitial.f
  rw [awake_is 30 (by decide)]
  simp only [Option.bind_some, if_true]
  by_cases c0 : v < 0
  · rw [if_pos c0]; exact hT true rfl
  · rw [if_neg c0]
    by_cases c1 : l < 0
    · rw [if_pos c1]; exact hT true rfl
    · rw [if_neg c1, w64 a (by omega) (by omega)]
      by_cases c2 : (vs.length : Int) < a
      · exact hT _ (decide_eq_true c2)
      · rw [decide_eq_false c2]
        simp only [regcertlaw15_EdgeInitial.j0]
        rw [if_neg (by decide), w64 a (by omega) (by omega), ini_is v l a (by omega) (by omega) (by omega) (by omega)]
        simp only [Option.bind_some]
        by_cases c3 : v < a
        · rw [if_pos c3, if_pos (by omega), if_pos (by omega)]
          exact ini_j1 25 a v l _ vs _ (by omega) (by omega) (by omega) (by omega) (by omega) (by omega) (by rw [if_pos c3]) rfl
        · rw [if_neg c3]
          exact ini_j1 25 a v l _ vs _ (by omega) (by omega) (by omega) (by omega) (by omega) (by omega) (by rw [if_neg c3]) rfl
end Go.Proofs.Ytndbpljldmnkcaa.Pure
