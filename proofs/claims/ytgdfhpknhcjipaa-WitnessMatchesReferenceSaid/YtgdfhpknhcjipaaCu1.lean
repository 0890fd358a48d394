/- The cursor: plain methods, and the read that the others use. -/
import Derived.Test.YtgdfhpknhcjipaaVb
namespace Go.Proofs.Ytgdfhpknhcjipaa.Cu
open Go Go.SX Go.Proofs.Ytgdfhpknhcjipaa.VT
set_option maxRecDepth 100000
set_option linter.unusedVariables false

def curO (A : Option Addr) (n c : Nat) (a e : Int) : Ob := .cells 85 [.v (.slice A n c), .v (.int .i64 a), .v (.int .i64 e)]

theorem err_fn (G : Gh) (A : Option Addr) (n c : Nat) (a e : Int) :
    Ct Try.prog 27 [.p 0 0] [curO A n c a e] G fun sv H' G' => sv = .v (.int .i64 e) ∧ H' = [curO A n c a e] ∧ G' = G := by
  refine fn_of follows [] Try.func27 rfl rfl fun E hE => ?_
  repeat' ((fail_if_success with_reducible refine Stop.mk ?_); (conv => whnf); with_reducible first | refine br_t ?_ | refine br_f ?_ | refine br_nn ?_ | refine br_ns ?_ | refine br_not ?_ | refine br_d (fun h => ?_) (fun h => ?_) | refine br_e (fun h => ?_) (fun h => ?_) | refine br_n (fun h => ?_) (fun h => ?_) | refine drw (by kernel_rfl) ?_ | refine chk (by kernel_rfl) ?_ | refine stop ?_)
  all_goals refine Stop.mk ?_
  exact fin_all ⟨rfl, rfl, rfl⟩
theorem at_fn (G : Gh) (A : Option Addr) (n c : Nat) (a e : Int) :
    Ct Try.prog 33 [.p 0 0] [curO A n c a e] G fun sv H' G' => sv = .v (.int .i64 a) ∧ H' = [curO A n c a e] ∧ G' = G := by
  refine fn_of follows [] Try.func33 rfl rfl fun E hE => ?_
  repeat' ((fail_if_success with_reducible refine Stop.mk ?_); (conv => whnf); with_reducible first | refine br_t ?_ | refine br_f ?_ | refine br_nn ?_ | refine br_ns ?_ | refine br_not ?_ | refine br_d (fun h => ?_) (fun h => ?_) | refine br_e (fun h => ?_) (fun h => ?_) | refine br_n (fun h => ?_) (fun h => ?_) | refine drw (by kernel_rfl) ?_ | refine chk (by kernel_rfl) ?_ | refine stop ?_)
  all_goals refine Stop.mk ?_
  exact fin_all ⟨rfl, rfl, rfl⟩
def failE (e why : Int) : Int := if e = 0 then why else e
theorem fail_fn (G : Gh) (A : Option Addr) (n c : Nat) (a e why : Int) :
    Ct Try.prog 35 [.p 0 0, .v (.int .i64 why)] [curO A n c a e] G fun sv H' G' => sv = .tup [] ∧ H' = [curO A n c a (failE e why)] ∧ G' = G := by
  refine fn_of follows [] Try.func35 rfl rfl fun E hE => ?_
  repeat' ((fail_if_success with_reducible refine Stop.mk ?_); (conv => whnf); with_reducible first | refine br_t ?_ | refine br_f ?_ | refine br_nn ?_ | refine br_ns ?_ | refine br_not ?_ | refine br_d (fun h => ?_) (fun h => ?_) | refine br_e (fun h => ?_) (fun h => ?_) | refine br_n (fun h => ?_) (fun h => ?_) | refine drw (by kernel_rfl) ?_ | refine chk (by kernel_rfl) ?_ | refine stop ?_)
  all_goals refine Stop.mk ?_
  · exact fin_all ⟨rfl, by simp [failE, *, curO], rfl⟩
  · exact fin_all ⟨rfl, by simp [failE, *, curO], rfl⟩
def leftN (n : Nat) (a e : Int) : Int := if e = 0 then n - a else 0
theorem left_fn (G : Gh) (A : Option Addr) (n c : Nat) (a e : Int) (h0 : 0 ≤ a) (h1 : a ≤ n) (hn : n ≤ 9223372036854775807) :
    Ct Try.prog 30 [.p 0 0] [curO A n c a e] G fun sv H' G' => sv = .v (.int .i64 (leftN n a e)) ∧ H' = [curO A n c a e] ∧ G' = G := by
  refine fn_of follows [(3, (.cons 0 [] (.cons 1 [] (.cons 2 [] (.cons 3 [] (.cons 4 [] (.cons 5 [] (.cons 6 [] (.cons 7 [] (.cons 8 [] (.cons 9 [] (.cons 10 [] .nil))))))))))))] Try.func30 rfl rfl fun E hE => ?_
  repeat' ((fail_if_success with_reducible refine Stop.mk ?_); (conv => whnf); with_reducible first | refine br_t ?_ | refine br_f ?_ | refine br_nn ?_ | refine br_ns ?_ | refine br_not ?_ | refine br_d (fun h => ?_) (fun h => ?_) | refine br_e (fun h => ?_) (fun h => ?_) | refine br_n (fun h => ?_) (fun h => ?_) | refine drw (by kernel_rfl) ?_ | refine chk (by kernel_rfl) ?_ | refine stop ?_)
  all_goals refine Stop.mk ?_
  · exact fin_all ⟨svi (by rw [i64_in (by omega) (by omega), leftN, if_pos (by omega)]), rfl, rfl⟩
  · exact fin_all ⟨svi (by rw [leftN, if_neg (by omega)]), rfl, rfl⟩
/-- A part of a slice of bytes. -/
theorem slB_drop {G : Gh} {A A' : Option Addr} {c : Nat} {bs : List Int} (hs : SlB G A c bs) (a : Nat) (ha : a ≤ bs.length) (hA : A' = if c = a then A else A.map (·.add (a * 1))) : SlB G A' (c - a) (bs.drop a) := by
  have hc := hs.cap
  refine ⟨by simp [byts], by simp; omega, by have := hs.top; omega, fun ad had => ?_, fun hn => ?_, byts_one _⟩
  · have hd : byts (bs.drop a) = (byts bs).drop a := by simp [byts, List.map_drop]
    rw [hd]
    by_cases hca : c = a
    · have : (byts bs).drop a = [] := List.drop_eq_nil_of_le (by rw [byts_length]; omega)
      rw [this]; intro j v hj; simp at hj
    · rw [if_neg hca] at hA
      cases A with
      | none => rw [hA] at had; simp at had
      | some ad0 =>
        rw [hA] at had
        simp at had
        subst had
        by_cases hl : a < (byts bs).length
        · exact (hs.there ad0 rfl).drop_ a hl
        · rw [List.drop_eq_nil_of_le (by omega)]; intro j v hj; simp at hj
  · by_cases hca : c = a
    · rw [if_pos hca] at hA
      have := hs.nil (by rw [← hA]; exact hn)
      simp; omega
    · rw [if_neg hca] at hA
      cases A with
      | none => have := hs.nil rfl; simp; omega
      | some ad0 => rw [hA] at hn; simp at hn
theorem slB_take {G : Gh} {A : Option Addr} {c : Nat} {bs : List Int} (hs : SlB G A c bs) (k : Nat) (hk : k ≤ bs.length) : Sl G A k c 1 (byts (bs.take k)) := by
  have hc := hs.cap
  refine ⟨by simp [byts]; omega, by omega, hs.top, fun ad had => ?_, fun hn => ?_, byts_one _⟩
  · have hd : byts (bs.take k) = (byts bs).take k := by simp [byts, List.map_take]
    rw [hd]; exact (hs.there ad had).take_ k
  · have := hs.nil hn; omega

/-- What a read comes to, 1 captured. -/
def ReadP1 (A : Option Addr) (bs : List Int) (c a : Nat) (e : Int) (x1 : Ob) (G : Gh) (PF : Nat → Int → Ob → Gh → Prop) (H' : List Ob) (G' : Gh) : Prop :=
  (e ≠ 0 ∧ H' = [curO A bs.length c a e, x1] ∧ G' = G) ∨
  (e = 0 ∧ ∃ r why y1, PF r why y1 G' ∧ H' = [curO A bs.length c (if why = 0 then ((a + r : Nat) : Int) else a) why, y1])
set_option maxHeartbeats 8000000 in
theorem read_fn1 (G : Gh) (A : Option Addr) (bs : List Int) (c a : Nat) (e : Int) (F : FuncId) (x1 : Ob) (PF : Nat → Int → Ob → Gh → Prop) (hs : SlB G A c bs) (ha : a ≤ bs.length)
    (hr : ∀ r why y1 G', PF r why y1 G' → why = 0 → a + r ≤ bs.length)
    (hF : e = 0 → ∀ (E : Env) (fr : List SV) (A' : Option Addr) (K : List Nat → SV → St → Prop), SlB G A' (c - a) (bs.drop a) →
      (∀ T r why y1 G', PF r why y1 G' → Ghe G G' → K T (.tup [.v (.int .i64 (r : Nat)), .v (.int .i64 why)]) ⟨fr, [curO A bs.length c a 0, y1], G'⟩) →
      CallVC Try.prog E F (.v (.slice A' (bs.drop a).length (c - a)) :: [.p 1 0]) ⟨fr, [curO A bs.length c a 0, x1], G⟩ K) :
    Ct Try.prog 54 [.p 0 0, .f (.func F) [] [.p 1 0]] [curO A bs.length c a e, x1] G fun sv H' G' => sv = .tup [] ∧ ReadP1 A bs c a e x1 G PF H' G' := by
  refine fn_of follows [(1, (.cons 0 [] (.cons 1 [] (.cons 2 [] (.cons 3 [] (.cons 4 [] (.cons 5 [] (.cons 6 [] (.cons 7 [] (.cons 8 [] (.cons 9 [] (.cons 10 [4, 8] (.cons 11 [] (.cons 12 [] (.cons 13 [] (.cons 14 [] (.cons 15 [] .nil)))))))))))))))))] Try.func54 rfl rfl fun E hE => ?_
  have hc := hs.cap
  have htop := hs.top
  repeat' ((fail_if_success with_reducible refine Stop.mk ?_); (conv => whnf); with_reducible first | refine br_t ?_ | refine br_f ?_ | refine br_nn ?_ | refine br_ns ?_ | refine br_not ?_ | refine br_d (fun h => ?_) (fun h => ?_) | refine br_e (fun h => ?_) (fun h => ?_) | refine br_n (fun h => ?_) (fun h => ?_) | refine drw (by kernel_rfl) ?_ | refine chk (by kernel_rfl) ?_ | refine stop ?_)
  all_goals refine Stop.mk ?_
  · obtain rfl : e = 0 := by omega
    refine ⟨⟨by omega, by omega⟩, fun A' hA' => ?_⟩
    rw [Int.toNat_natCast] at hA' ⊢
    have hs' := slB_drop hs a ha hA'
    rw [show bs.length - a = (bs.drop a).length by simp]
    repeat' ((fail_if_success with_reducible refine Stop.mk ?_); (conv => whnf); with_reducible first | refine br_t ?_ | refine br_f ?_ | refine br_nn ?_ | refine br_ns ?_ | refine br_not ?_ | refine br_d (fun h => ?_) (fun h => ?_) | refine br_e (fun h => ?_) (fun h => ?_) | refine br_n (fun h => ?_) (fun h => ?_) | refine drw (by kernel_rfl) ?_ | refine chk (by kernel_rfl) ?_ | refine stop ?_)
    all_goals refine Stop.mk ?_
    refine hF rfl E _ _ _ hs' fun T r why y1 G' hp hg => ?_
    have hr' := hr r why y1 G' hp
    repeat' ((fail_if_success with_reducible refine Stop.mk ?_); (conv => whnf); with_reducible first | refine br_t ?_ | refine br_f ?_ | refine br_nn ?_ | refine br_ns ?_ | refine br_not ?_ | refine br_d (fun h => ?_) (fun h => ?_) | refine br_e (fun h => ?_) (fun h => ?_) | refine br_n (fun h => ?_) (fun h => ?_) | refine drw (by kernel_rfl) ?_ | refine chk (by kernel_rfl) ?_ | refine stop ?_)
    all_goals refine Stop.mk ?_
    · have hw : IntKind.i64.wrap ((a : Int) + (r : Int)) = ((a + r : Nat) : Int) := by have := hr' (by omega); rw [i64_in (by omega) (by omega)]; simp
      rw [hw]
      obtain rfl : why = 0 := by omega
      exact fin_all ⟨rfl, .inr ⟨rfl, r, 0, y1, hp, by rw [if_pos rfl]; try rfl⟩⟩
    · exact fin_all ⟨rfl, .inr ⟨rfl, r, why, y1, hp, by rw [if_neg (by assumption)]; try rfl⟩⟩
  · exact fin_all ⟨rfl, .inl ⟨by assumption, rfl, rfl⟩⟩

/-- What a read comes to, 2 captured. -/
def ReadP2 (A : Option Addr) (bs : List Int) (c a : Nat) (e : Int) (x1 : Ob) (x2 : Ob) (G : Gh) (PF : Nat → Int → Ob → Ob → Gh → Prop) (H' : List Ob) (G' : Gh) : Prop :=
  (e ≠ 0 ∧ H' = [curO A bs.length c a e, x1, x2] ∧ G' = G) ∨
  (e = 0 ∧ ∃ r why y1 y2, PF r why y1 y2 G' ∧ H' = [curO A bs.length c (if why = 0 then ((a + r : Nat) : Int) else a) why, y1, y2])
set_option maxHeartbeats 8000000 in
theorem read_fn2 (G : Gh) (A : Option Addr) (bs : List Int) (c a : Nat) (e : Int) (F : FuncId) (x1 : Ob) (x2 : Ob) (PF : Nat → Int → Ob → Ob → Gh → Prop) (hs : SlB G A c bs) (ha : a ≤ bs.length)
    (hr : ∀ r why y1 y2 G', PF r why y1 y2 G' → why = 0 → a + r ≤ bs.length)
    (hF : e = 0 → ∀ (E : Env) (fr : List SV) (A' : Option Addr) (K : List Nat → SV → St → Prop), SlB G A' (c - a) (bs.drop a) →
      (∀ T r why y1 y2 G', PF r why y1 y2 G' → Ghe G G' → K T (.tup [.v (.int .i64 (r : Nat)), .v (.int .i64 why)]) ⟨fr, [curO A bs.length c a 0, y1, y2], G'⟩) →
      CallVC Try.prog E F (.v (.slice A' (bs.drop a).length (c - a)) :: [.p 1 0, .p 2 0]) ⟨fr, [curO A bs.length c a 0, x1, x2], G⟩ K) :
    Ct Try.prog 54 [.p 0 0, .f (.func F) [] [.p 1 0, .p 2 0]] [curO A bs.length c a e, x1, x2] G fun sv H' G' => sv = .tup [] ∧ ReadP2 A bs c a e x1 x2 G PF H' G' := by
  refine fn_of follows [(1, (.cons 0 [] (.cons 1 [] (.cons 2 [] (.cons 3 [] (.cons 4 [] (.cons 5 [] (.cons 6 [] (.cons 7 [] (.cons 8 [] (.cons 9 [] (.cons 10 [4, 8] (.cons 11 [] (.cons 12 [] (.cons 13 [] (.cons 14 [] (.cons 15 [] .nil)))))))))))))))))] Try.func54 rfl rfl fun E hE => ?_
  have hc := hs.cap
  have htop := hs.top
  repeat' ((fail_if_success with_reducible refine Stop.mk ?_); (conv => whnf); with_reducible first | refine br_t ?_ | refine br_f ?_ | refine br_nn ?_ | refine br_ns ?_ | refine br_not ?_ | refine br_d (fun h => ?_) (fun h => ?_) | refine br_e (fun h => ?_) (fun h => ?_) | refine br_n (fun h => ?_) (fun h => ?_) | refine drw (by kernel_rfl) ?_ | refine chk (by kernel_rfl) ?_ | refine stop ?_)
  all_goals refine Stop.mk ?_
  · obtain rfl : e = 0 := by omega
    refine ⟨⟨by omega, by omega⟩, fun A' hA' => ?_⟩
    rw [Int.toNat_natCast] at hA' ⊢
    have hs' := slB_drop hs a ha hA'
    rw [show bs.length - a = (bs.drop a).length by simp]
    repeat' ((fail_if_success with_reducible refine Stop.mk ?_); (conv => whnf); with_reducible first | refine br_t ?_ | refine br_f ?_ | refine br_nn ?_ | refine br_ns ?_ | refine br_not ?_ | refine br_d (fun h => ?_) (fun h => ?_) | refine br_e (fun h => ?_) (fun h => ?_) | refine br_n (fun h => ?_) (fun h => ?_) | refine drw (by kernel_rfl) ?_ | refine chk (by kernel_rfl) ?_ | refine stop ?_)
    all_goals refine Stop.mk ?_
    refine hF rfl E _ _ _ hs' fun T r why y1 y2 G' hp hg => ?_
    have hr' := hr r why y1 y2 G' hp
    repeat' ((fail_if_success with_reducible refine Stop.mk ?_); (conv => whnf); with_reducible first | refine br_t ?_ | refine br_f ?_ | refine br_nn ?_ | refine br_ns ?_ | refine br_not ?_ | refine br_d (fun h => ?_) (fun h => ?_) | refine br_e (fun h => ?_) (fun h => ?_) | refine br_n (fun h => ?_) (fun h => ?_) | refine drw (by kernel_rfl) ?_ | refine chk (by kernel_rfl) ?_ | refine stop ?_)
    all_goals refine Stop.mk ?_
    · have hw : IntKind.i64.wrap ((a : Int) + (r : Int)) = ((a + r : Nat) : Int) := by have := hr' (by omega); rw [i64_in (by omega) (by omega)]; simp
      rw [hw]
      obtain rfl : why = 0 := by omega
      exact fin_all ⟨rfl, .inr ⟨rfl, r, 0, y1, y2, hp, by rw [if_pos rfl]; try rfl⟩⟩
    · exact fin_all ⟨rfl, .inr ⟨rfl, r, why, y1, y2, hp, by rw [if_neg (by assumption)]; try rfl⟩⟩
  · exact fin_all ⟨rfl, .inl ⟨by assumption, rfl, rfl⟩⟩

/-- What a read comes to, 3 captured. -/
def ReadP3 (A : Option Addr) (bs : List Int) (c a : Nat) (e : Int) (x1 : Ob) (x2 : Ob) (x3 : Ob) (G : Gh) (PF : Nat → Int → Ob → Ob → Ob → Gh → Prop) (H' : List Ob) (G' : Gh) : Prop :=
  (e ≠ 0 ∧ H' = [curO A bs.length c a e, x1, x2, x3] ∧ G' = G) ∨
  (e = 0 ∧ ∃ r why y1 y2 y3, PF r why y1 y2 y3 G' ∧ H' = [curO A bs.length c (if why = 0 then ((a + r : Nat) : Int) else a) why, y1, y2, y3])
set_option maxHeartbeats 8000000 in
theorem read_fn3 (G : Gh) (A : Option Addr) (bs : List Int) (c a : Nat) (e : Int) (F : FuncId) (x1 : Ob) (x2 : Ob) (x3 : Ob) (PF : Nat → Int → Ob → Ob → Ob → Gh → Prop) (hs : SlB G A c bs) (ha : a ≤ bs.length)
    (hr : ∀ r why y1 y2 y3 G', PF r why y1 y2 y3 G' → why = 0 → a + r ≤ bs.length)
    (hF : e = 0 → ∀ (E : Env) (fr : List SV) (A' : Option Addr) (K : List Nat → SV → St → Prop), SlB G A' (c - a) (bs.drop a) →
      (∀ T r why y1 y2 y3 G', PF r why y1 y2 y3 G' → Ghe G G' → K T (.tup [.v (.int .i64 (r : Nat)), .v (.int .i64 why)]) ⟨fr, [curO A bs.length c a 0, y1, y2, y3], G'⟩) →
      CallVC Try.prog E F (.v (.slice A' (bs.drop a).length (c - a)) :: [.p 1 0, .p 2 0, .p 3 0]) ⟨fr, [curO A bs.length c a 0, x1, x2, x3], G⟩ K) :
    Ct Try.prog 54 [.p 0 0, .f (.func F) [] [.p 1 0, .p 2 0, .p 3 0]] [curO A bs.length c a e, x1, x2, x3] G fun sv H' G' => sv = .tup [] ∧ ReadP3 A bs c a e x1 x2 x3 G PF H' G' := by
  refine fn_of follows [(1, (.cons 0 [] (.cons 1 [] (.cons 2 [] (.cons 3 [] (.cons 4 [] (.cons 5 [] (.cons 6 [] (.cons 7 [] (.cons 8 [] (.cons 9 [] (.cons 10 [4, 8] (.cons 11 [] (.cons 12 [] (.cons 13 [] (.cons 14 [] (.cons 15 [] .nil)))))))))))))))))] Try.func54 rfl rfl fun E hE => ?_
  have hc := hs.cap
  have htop := hs.top
  repeat' ((fail_if_success with_reducible refine Stop.mk ?_); (conv => whnf); with_reducible first | refine br_t ?_ | refine br_f ?_ | refine br_nn ?_ | refine br_ns ?_ | refine br_not ?_ | refine br_d (fun h => ?_) (fun h => ?_) | refine br_e (fun h => ?_) (fun h => ?_) | refine br_n (fun h => ?_) (fun h => ?_) | refine drw (by kernel_rfl) ?_ | refine chk (by kernel_rfl) ?_ | refine stop ?_)
  all_goals refine Stop.mk ?_
  · obtain rfl : e = 0 := by omega
    refine ⟨⟨by omega, by omega⟩, fun A' hA' => ?_⟩
    rw [Int.toNat_natCast] at hA' ⊢
    have hs' := slB_drop hs a ha hA'
    rw [show bs.length - a = (bs.drop a).length by simp]
    repeat' ((fail_if_success with_reducible refine Stop.mk ?_); (conv => whnf); with_reducible first | refine br_t ?_ | refine br_f ?_ | refine br_nn ?_ | refine br_ns ?_ | refine br_not ?_ | refine br_d (fun h => ?_) (fun h => ?_) | refine br_e (fun h => ?_) (fun h => ?_) | refine br_n (fun h => ?_) (fun h => ?_) | refine drw (by kernel_rfl) ?_ | refine chk (by kernel_rfl) ?_ | refine stop ?_)
    all_goals refine Stop.mk ?_
    refine hF rfl E _ _ _ hs' fun T r why y1 y2 y3 G' hp hg => ?_
    have hr' := hr r why y1 y2 y3 G' hp
    repeat' ((fail_if_success with_reducible refine Stop.mk ?_); (conv => whnf); with_reducible first | refine br_t ?_ | refine br_f ?_ | refine br_nn ?_ | refine br_ns ?_ | refine br_not ?_ | refine br_d (fun h => ?_) (fun h => ?_) | refine br_e (fun h => ?_) (fun h => ?_) | refine br_n (fun h => ?_) (fun h => ?_) | refine drw (by kernel_rfl) ?_ | refine chk (by kernel_rfl) ?_ | refine stop ?_)
    all_goals refine Stop.mk ?_
    · have hw : IntKind.i64.wrap ((a : Int) + (r : Int)) = ((a + r : Nat) : Int) := by have := hr' (by omega); rw [i64_in (by omega) (by omega)]; simp
      rw [hw]
      obtain rfl : why = 0 := by omega
      exact fin_all ⟨rfl, .inr ⟨rfl, r, 0, y1, y2, y3, hp, by rw [if_pos rfl]; try rfl⟩⟩
    · exact fin_all ⟨rfl, .inr ⟨rfl, r, why, y1, y2, y3, hp, by rw [if_neg (by assumption)]; try rfl⟩⟩
  · exact fin_all ⟨rfl, .inl ⟨by assumption, rfl, rfl⟩⟩
end Go.Proofs.Ytgdfhpknhcjipaa.Cu
