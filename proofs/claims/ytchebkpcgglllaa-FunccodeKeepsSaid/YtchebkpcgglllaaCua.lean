/- Cua: Cu1, Cu2, Cu3, Cu4 in one text. -/
import Derived.Test.YtchebkpcgglllaaVTx
namespace Go.Proofs.Ytchebkpcgglllaa.Cu
open Go Go.SX Go.Proofs.Ytchebkpcgglllaa.VT
set_option maxRecDepth 100000
set_option linter.unusedVariables false

def curO (A : Option Addr) (n c : Nat) (a e : Int) : Ob := .cells 78 [.v (.slice A n c), .v (.int .i64 a), .v (.int .i64 e)]

theorem err_fn (G : Gh) (A : Option Addr) (n c : Nat) (a e : Int) :
    Ct Try.prog 25 [.p 0 0] [curO A n c a e] G fun sv H' G' => sv = .v (.int .i64 e) ∧ H' = [curO A n c a e] ∧ G' = G := by
  refine fn_of follows [] Try.func25 rfl rfl fun E hE => ?_
  repeat' ((fail_if_success with_reducible refine Stop.mk ?_); (conv => whnf); with_reducible first | refine br_t ?_ | refine br_f ?_ | refine br_nn ?_ | refine br_ns ?_ | refine br_not ?_ | refine br_d (fun h => ?_) (fun h => ?_) | refine br_e (fun h => ?_) (fun h => ?_) | refine br_n (fun h => ?_) (fun h => ?_) | refine drw (by kernel_rfl) ?_ | refine chk (by kernel_rfl) ?_ | refine stop ?_)
  all_goals refine Stop.mk ?_
  exact fin_all ⟨rfl, rfl, rfl⟩
def failE (e why : Int) : Int := if e = 0 then why else e
theorem fail_fn (G : Gh) (A : Option Addr) (n c : Nat) (a e why : Int) :
    Ct Try.prog 26 [.p 0 0, .v (.int .i64 why)] [curO A n c a e] G fun sv H' G' => sv = .tup [] ∧ H' = [curO A n c a (failE e why)] ∧ G' = G := by
  refine fn_of follows [] Try.func26 rfl rfl fun E hE => ?_
  repeat' ((fail_if_success with_reducible refine Stop.mk ?_); (conv => whnf); with_reducible first | refine br_t ?_ | refine br_f ?_ | refine br_nn ?_ | refine br_ns ?_ | refine br_not ?_ | refine br_d (fun h => ?_) (fun h => ?_) | refine br_e (fun h => ?_) (fun h => ?_) | refine br_n (fun h => ?_) (fun h => ?_) | refine drw (by kernel_rfl) ?_ | refine chk (by kernel_rfl) ?_ | refine stop ?_)
  all_goals refine Stop.mk ?_
  · exact fin_all ⟨rfl, by simp [failE, *, curO], rfl⟩
  · exact fin_all ⟨rfl, by simp [failE, *, curO], rfl⟩
def leftN (n : Nat) (a e : Int) : Int := if e = 0 then n - a else 0
theorem left_fn (G : Gh) (A : Option Addr) (n c : Nat) (a e : Int) (h0 : 0 ≤ a) (h1 : a ≤ n) (hn : n ≤ 9223372036854775807) :
    Ct Try.prog 28 [.p 0 0] [curO A n c a e] G fun sv H' G' => sv = .v (.int .i64 (leftN n a e)) ∧ H' = [curO A n c a e] ∧ G' = G := by
  refine fn_of follows [(3, (.cons 0 [] (.cons 1 [] (.cons 2 [] (.cons 3 [] (.cons 4 [] (.cons 5 [] (.cons 6 [] (.cons 7 [] (.cons 8 [] (.cons 9 [] (.cons 10 [] .nil))))))))))))] Try.func28 rfl rfl fun E hE => ?_
  repeat' ((fail_if_success with_reducible refine Stop.mk ?_); (conv => whnf); with_reducible first | refine br_t ?_ | refine br_f ?_ | refine br_nn ?_ | refine br_ns ?_ | refine br_not ?_ | refine br_d (fun h => ?_) (fun h => ?_) | refine br_e (fun h => ?_) (fun h => ?_) | refine br_n (fun h => ?_) (fun h => ?_) | refine drw (by kernel_rfl) ?_ | refine chk (by kernel_rfl) ?_ | refine stop ?_)
  all_goals refine Stop.mk ?_
  · exact fin_all ⟨svi (by rw [i64_in (by omega) (by omega), leftN, if_pos (by omega)]), rfl, rfl⟩
  · exact fin_all ⟨svi (by rw [leftN, if_neg (by omega)]), rfl, rfl⟩
/-- A part of a slice of bytes. -/
theorem slB_drop {G : Gh} {A A' : Option Addr} {c : Nat} {bs : List Int} (hs : SlB G A c bs) (a : Nat) (ha : a ≤ bs.length) (hA : A' = if c = a then A else A.map (·.add (a * 1))) : SlB G A' (c - a) (bs.drop a) := by
  have hc := hs.cap
  refine ⟨by simp [byts], by simp; omega, by have := hs.top; omega, fun ad had => ?_, fun hn => ?_, byts_one _⟩
  · have hd : byts (bs.drop a) = (byts bs).drop a := by simp [byts, List.map_drop]
    rw [hd]
    by_cases hca : c = a
    · have : (byts bs).drop a = [] := List.drop_eq_nil_of_le (by rw [byts_length]; omega)
      rw [this]; intro j v hj; simp at hj
    · rw [if_neg hca] at hA
      cases A with
      | none => rw [hA] at had; simp at had
      | some ad0 =>
        rw [hA] at had
        simp at had
        subst had
        by_cases hl : a < (byts bs).length
        · exact (hs.there ad0 rfl).drop_ a hl
        · rw [List.drop_eq_nil_of_le (by omega)]; intro j v hj; simp at hj
  · by_cases hca : c = a
    · rw [if_pos hca] at hA
      have := hs.nil (by rw [← hA]; exact hn)
      simp; omega
    · rw [if_neg hca] at hA
      cases A with
      | none => have := hs.nil rfl; simp; omega
      | some ad0 => rw [hA] at hn; simp at hn
theorem slB_take {G : Gh} {A : Option Addr} {c : Nat} {bs : List Int} (hs : SlB G A c bs) (k : Nat) (hk : k ≤ bs.length) : Sl G A k c 1 (byts (bs.take k)) := by
  have hc := hs.cap
  refine ⟨by simp [byts]; omega, by omega, hs.top, fun ad had => ?_, fun hn => ?_, byts_one _⟩
  · have hd : byts (bs.take k) = (byts bs).take k := by simp [byts, List.map_take]
    rw [hd]; exact (hs.there ad had).take_ k
  · have := hs.nil hn; omega

/-- What a read comes to, 1 captured. -/
def ReadP1 (A : Option Addr) (bs : List Int) (c a : Nat) (e : Int) (x1 : Ob) (G : Gh) (PF : Nat → Int → Ob → Gh → Prop) (H' : List Ob) (G' : Gh) : Prop :=
  (e ≠ 0 ∧ H' = [curO A bs.length c a e, x1] ∧ G' = G) ∨
  (e = 0 ∧ ∃ r why y1, PF r why y1 G' ∧ H' = [curO A bs.length c (if why = 0 then ((a + r : Nat) : Int) else a) why, y1])
set_option maxHeartbeats 8000000 in
theorem read_fn1 (G : Gh) (A : Option Addr) (bs : List Int) (c a : Nat) (e : Int) (F : FuncId) (x1 : Ob) (PF : Nat → Int → Ob → Gh → Prop) (hs : SlB G A c bs) (ha : a ≤ bs.length)
    (hr : ∀ r why y1 G', PF r why y1 G' → why = 0 → a + r ≤ bs.length)
    (hF : e = 0 → ∀ (E : Env) (fr : List SV) (A' : Option Addr) (K : List Nat → SV → St → Prop), SlB G A' (c - a) (bs.drop a) →
      (∀ T r why y1 G', PF r why y1 G' → Ghe G G' → K T (.tup [.v (.int .i64 (r : Nat)), .v (.int .i64 why)]) ⟨fr, [curO A bs.length c a 0, y1], G'⟩) →
      CallVC Try.prog E F (.v (.slice A' (bs.drop a).length (c - a)) :: [.p 1 0]) ⟨fr, [curO A bs.length c a 0, x1], G⟩ K) :
    Ct Try.prog 42 [.p 0 0, .f (.func F) [] [.p 1 0]] [curO A bs.length c a e, x1] G fun sv H' G' => sv = .tup [] ∧ ReadP1 A bs c a e x1 G PF H' G' := by
  refine fn_of follows [(1, (.cons 0 [] (.cons 1 [] (.cons 2 [] (.cons 3 [] (.cons 4 [] (.cons 5 [] (.cons 6 [] (.cons 7 [] (.cons 8 [] (.cons 9 [] (.cons 10 [4, 8] (.cons 11 [] (.cons 12 [] (.cons 13 [] (.cons 14 [] (.cons 15 [] .nil)))))))))))))))))] Try.func42 rfl rfl fun E hE => ?_
  have hc := hs.cap
  have htop := hs.top
  repeat' ((fail_if_success with_reducible refine Stop.mk ?_); (conv => whnf); with_reducible first | refine br_t ?_ | refine br_f ?_ | refine br_nn ?_ | refine br_ns ?_ | refine br_not ?_ | refine br_d (fun h => ?_) (fun h => ?_) | refine br_e (fun h => ?_) (fun h => ?_) | refine br_n (fun h => ?_) (fun h => ?_) | refine drw (by kernel_rfl) ?_ | refine chk (by kernel_rfl) ?_ | refine stop ?_)
  all_goals refine Stop.mk ?_
  · obtain rfl : e = 0 := by omega
    refine ⟨⟨by omega, by omega⟩, fun A' hA' => ?_⟩
    rw [Int.toNat_natCast] at hA' ⊢
    have hs' := slB_drop hs a ha hA'
    rw [show bs.length - a = (bs.drop a).length by simp]
    repeat' ((fail_if_success with_reducible refine Stop.mk ?_); (conv => whnf); with_reducible first | refine br_t ?_ | refine br_f ?_ | refine br_nn ?_ | refine br_ns ?_ | refine br_not ?_ | refine br_d (fun h => ?_) (fun h => ?_) | refine br_e (fun h => ?_) (fun h => ?_) | refine br_n (fun h => ?_) (fun h => ?_) | refine drw (by kernel_rfl) ?_ | refine chk (by kernel_rfl) ?_ | refine stop ?_)
    all_goals refine Stop.mk ?_
    refine hF rfl E _ _ _ hs' fun T r why y1 G' hp hg => ?_
    have hr' := hr r why y1 G' hp
    repeat' ((fail_if_success with_reducible refine Stop.mk ?_); (conv => whnf); with_reducible first | refine br_t ?_ | refine br_f ?_ | refine br_nn ?_ | refine br_ns ?_ | refine br_not ?_ | refine br_d (fun h => ?_) (fun h => ?_) | refine br_e (fun h => ?_) (fun h => ?_) | refine br_n (fun h => ?_) (fun h => ?_) | refine drw (by kernel_rfl) ?_ | refine chk (by kernel_rfl) ?_ | refine stop ?_)
    all_goals refine Stop.mk ?_
    · have hw : IntKind.i64.wrap ((a : Int) + (r : Int)) = ((a + r : Nat) : Int) := by have := hr' (by omega); rw [i64_in (by omega) (by omega)]; simp
      rw [hw]
      obtain rfl : why = 0 := by omega
      exact fin_all ⟨rfl, .inr ⟨rfl, r, 0, y1, hp, by rw [if_pos rfl]; try rfl⟩⟩
    · exact fin_all ⟨rfl, .inr ⟨rfl, r, why, y1, hp, by rw [if_neg (by assumption)]; try rfl⟩⟩
  · exact fin_all ⟨rfl, .inl ⟨by assumption, rfl, rfl⟩⟩

/-- What a read comes to, 2 captured. -/
def ReadP2 (A : Option Addr) (bs : List Int) (c a : Nat) (e : Int) (x1 : Ob) (x2 : Ob) (G : Gh) (PF : Nat → Int → Ob → Ob → Gh → Prop) (H' : List Ob) (G' : Gh) : Prop :=
  (e ≠ 0 ∧ H' = [curO A bs.length c a e, x1, x2] ∧ G' = G) ∨
  (e = 0 ∧ ∃ r why y1 y2, PF r why y1 y2 G' ∧ H' = [curO A bs.length c (if why = 0 then ((a + r : Nat) : Int) else a) why, y1, y2])
set_option maxHeartbeats 8000000 in
theorem read_fn2 (G : Gh) (A : Option Addr) (bs : List Int) (c a : Nat) (e : Int) (F : FuncId) (x1 : Ob) (x2 : Ob) (PF : Nat → Int → Ob → Ob → Gh → Prop) (hs : SlB G A c bs) (ha : a ≤ bs.length)
    (hr : ∀ r why y1 y2 G', PF r why y1 y2 G' → why = 0 → a + r ≤ bs.length)
    (hF : e = 0 → ∀ (E : Env) (fr : List SV) (A' : Option Addr) (K : List Nat → SV → St → Prop), SlB G A' (c - a) (bs.drop a) →
      (∀ T r why y1 y2 G', PF r why y1 y2 G' → Ghe G G' → K T (.tup [.v (.int .i64 (r : Nat)), .v (.int .i64 why)]) ⟨fr, [curO A bs.length c a 0, y1, y2], G'⟩) →
      CallVC Try.prog E F (.v (.slice A' (bs.drop a).length (c - a)) :: [.p 1 0, .p 2 0]) ⟨fr, [curO A bs.length c a 0, x1, x2], G⟩ K) :
    Ct Try.prog 42 [.p 0 0, .f (.func F) [] [.p 1 0, .p 2 0]] [curO A bs.length c a e, x1, x2] G fun sv H' G' => sv = .tup [] ∧ ReadP2 A bs c a e x1 x2 G PF H' G' := by
  refine fn_of follows [(1, (.cons 0 [] (.cons 1 [] (.cons 2 [] (.cons 3 [] (.cons 4 [] (.cons 5 [] (.cons 6 [] (.cons 7 [] (.cons 8 [] (.cons 9 [] (.cons 10 [4, 8] (.cons 11 [] (.cons 12 [] (.cons 13 [] (.cons 14 [] (.cons 15 [] .nil)))))))))))))))))] Try.func42 rfl rfl fun E hE => ?_
  have hc := hs.cap
  have htop := hs.top
  repeat' ((fail_if_success with_reducible refine Stop.mk ?_); (conv => whnf); with_reducible first | refine br_t ?_ | refine br_f ?_ | refine br_nn ?_ | refine br_ns ?_ | refine br_not ?_ | refine br_d (fun h => ?_) (fun h => ?_) | refine br_e (fun h => ?_) (fun h => ?_) | refine br_n (fun h => ?_) (fun h => ?_) | refine drw (by kernel_rfl) ?_ | refine chk (by kernel_rfl) ?_ | refine stop ?_)
  all_goals refine Stop.mk ?_
  · obtain rfl : e = 0 := by omega
    refine ⟨⟨by omega, by omega⟩, fun A' hA' => ?_⟩
    rw [Int.toNat_natCast] at hA' ⊢
    have hs' := slB_drop hs a ha hA'
    rw [show bs.length - a = (bs.drop a).length by simp]
    repeat' ((fail_if_success with_reducible refine Stop.mk ?_); (conv => whnf); with_reducible first | refine br_t ?_ | refine br_f ?_ | refine br_nn ?_ | refine br_ns ?_ | refine br_not ?_ | refine br_d (fun h => ?_) (fun h => ?_) | refine br_e (fun h => ?_) (fun h => ?_) | refine br_n (fun h => ?_) (fun h => ?_) | refine drw (by kernel_rfl) ?_ | refine chk (by kernel_rfl) ?_ | refine stop ?_)
    all_goals refine Stop.mk ?_
    refine hF rfl E _ _ _ hs' fun T r why y1 y2 G' hp hg => ?_
    have hr' := hr r why y1 y2 G' hp
    repeat' ((fail_if_success with_reducible refine Stop.mk ?_); (conv => whnf); with_reducible first | refine br_t ?_ | refine br_f ?_ | refine br_nn ?_ | refine br_ns ?_ | refine br_not ?_ | refine br_d (fun h => ?_) (fun h => ?_) | refine br_e (fun h => ?_) (fun h => ?_) | refine br_n (fun h => ?_) (fun h => ?_) | refine drw (by kernel_rfl) ?_ | refine chk (by kernel_rfl) ?_ | refine stop ?_)
    all_goals refine Stop.mk ?_
    · have hw : IntKind.i64.wrap ((a : Int) + (r : Int)) = ((a + r : Nat) : Int) := by have := hr' (by omega); rw [i64_in (by omega) (by omega)]; simp
      rw [hw]
      obtain rfl : why = 0 := by omega
      exact fin_all ⟨rfl, .inr ⟨rfl, r, 0, y1, y2, hp, by rw [if_pos rfl]; try rfl⟩⟩
    · exact fin_all ⟨rfl, .inr ⟨rfl, r, why, y1, y2, hp, by rw [if_neg (by assumption)]; try rfl⟩⟩
  · exact fin_all ⟨rfl, .inl ⟨by assumption, rfl, rfl⟩⟩

/-- What a read comes to, 3 captured. -/
def ReadP3 (A : Option Addr) (bs : List Int) (c a : Nat) (e : Int) (x1 : Ob) (x2 : Ob) (x3 : Ob) (G : Gh) (PF : Nat → Int → Ob → Ob → Ob → Gh → Prop) (H' : List Ob) (G' : Gh) : Prop :=
  (e ≠ 0 ∧ H' = [curO A bs.length c a e, x1, x2, x3] ∧ G' = G) ∨
  (e = 0 ∧ ∃ r why y1 y2 y3, PF r why y1 y2 y3 G' ∧ H' = [curO A bs.length c (if why = 0 then ((a + r : Nat) : Int) else a) why, y1, y2, y3])
set_option maxHeartbeats 8000000 in
theorem read_fn3 (G : Gh) (A : Option Addr) (bs : List Int) (c a : Nat) (e : Int) (F : FuncId) (x1 : Ob) (x2 : Ob) (x3 : Ob) (PF : Nat → Int → Ob → Ob → Ob → Gh → Prop) (hs : SlB G A c bs) (ha : a ≤ bs.length)
    (hr : ∀ r why y1 y2 y3 G', PF r why y1 y2 y3 G' → why = 0 → a + r ≤ bs.length)
    (hF : e = 0 → ∀ (E : Env) (fr : List SV) (A' : Option Addr) (K : List Nat → SV → St → Prop), SlB G A' (c - a) (bs.drop a) →
      (∀ T r why y1 y2 y3 G', PF r why y1 y2 y3 G' → Ghe G G' → K T (.tup [.v (.int .i64 (r : Nat)), .v (.int .i64 why)]) ⟨fr, [curO A bs.length c a 0, y1, y2, y3], G'⟩) →
      CallVC Try.prog E F (.v (.slice A' (bs.drop a).length (c - a)) :: [.p 1 0, .p 2 0, .p 3 0]) ⟨fr, [curO A bs.length c a 0, x1, x2, x3], G⟩ K) :
    Ct Try.prog 42 [.p 0 0, .f (.func F) [] [.p 1 0, .p 2 0, .p 3 0]] [curO A bs.length c a e, x1, x2, x3] G fun sv H' G' => sv = .tup [] ∧ ReadP3 A bs c a e x1 x2 x3 G PF H' G' := by
  refine fn_of follows [(1, (.cons 0 [] (.cons 1 [] (.cons 2 [] (.cons 3 [] (.cons 4 [] (.cons 5 [] (.cons 6 [] (.cons 7 [] (.cons 8 [] (.cons 9 [] (.cons 10 [4, 8] (.cons 11 [] (.cons 12 [] (.cons 13 [] (.cons 14 [] (.cons 15 [] .nil)))))))))))))))))] Try.func42 rfl rfl fun E hE => ?_
  have hc := hs.cap
  have htop := hs.top
  repeat' ((fail_if_success with_reducible refine Stop.mk ?_); (conv => whnf); with_reducible first | refine br_t ?_ | refine br_f ?_ | refine br_nn ?_ | refine br_ns ?_ | refine br_not ?_ | refine br_d (fun h => ?_) (fun h => ?_) | refine br_e (fun h => ?_) (fun h => ?_) | refine br_n (fun h => ?_) (fun h => ?_) | refine drw (by kernel_rfl) ?_ | refine chk (by kernel_rfl) ?_ | refine stop ?_)
  all_goals refine Stop.mk ?_
  · obtain rfl : e = 0 := by omega
    refine ⟨⟨by omega, by omega⟩, fun A' hA' => ?_⟩
    rw [Int.toNat_natCast] at hA' ⊢
    have hs' := slB_drop hs a ha hA'
    rw [show bs.length - a = (bs.drop a).length by simp]
    repeat' ((fail_if_success with_reducible refine Stop.mk ?_); (conv => whnf); with_reducible first | refine br_t ?_ | refine br_f ?_ | refine br_nn ?_ | refine br_ns ?_ | refine br_not ?_ | refine br_d (fun h => ?_) (fun h => ?_) | refine br_e (fun h => ?_) (fun h => ?_) | refine br_n (fun h => ?_) (fun h => ?_) | refine drw (by kernel_rfl) ?_ | refine chk (by kernel_rfl) ?_ | refine stop ?_)
    all_goals refine Stop.mk ?_
    refine hF rfl E _ _ _ hs' fun T r why y1 y2 y3 G' hp hg => ?_
    have hr' := hr r why y1 y2 y3 G' hp
    repeat' ((fail_if_success with_reducible refine Stop.mk ?_); (conv => whnf); with_reducible first | refine br_t ?_ | refine br_f ?_ | refine br_nn ?_ | refine br_ns ?_ | refine br_not ?_ | refine br_d (fun h => ?_) (fun h => ?_) | refine br_e (fun h => ?_) (fun h => ?_) | refine br_n (fun h => ?_) (fun h => ?_) | refine drw (by kernel_rfl) ?_ | refine chk (by kernel_rfl) ?_ | refine stop ?_)
    all_goals refine Stop.mk ?_
    · have hw : IntKind.i64.wrap ((a : Int) + (r : Int)) = ((a + r : Nat) : Int) := by have := hr' (by omega); rw [i64_in (by omega) (by omega)]; simp
      rw [hw]
      obtain rfl : why = 0 := by omega
      exact fin_all ⟨rfl, .inr ⟨rfl, r, 0, y1, y2, y3, hp, by rw [if_pos rfl]; try rfl⟩⟩
    · exact fin_all ⟨rfl, .inr ⟨rfl, r, why, y1, y2, y3, hp, by rw [if_neg (by assumption)]; try rfl⟩⟩
  · exact fin_all ⟨rfl, .inl ⟨by assumption, rfl, rfl⟩⟩
end Go.Proofs.Ytchebkpcgglllaa.Cu

namespace Go.Proofs.Ytchebkpcgglllaa.Cu
open Go Go.SX Go.Proofs.Ytchebkpcgglllaa.VT
set_option maxRecDepth 100000
set_option linter.unusedVariables false

theorem vdec_form {l : List Int} (hb : isB l) : (∃ e : Int, (e = 1 ∨ e = 3) ∧ vdec 0 l = (0, 0, e)) ∨ (∃ n m : Nat, vdec 0 l = ((n : Int), (m : Int), 0) ∧ n < 18446744073709551616 ∧ 0 < m ∧ m ≤ l.length ∧ m ≤ 10 ∧ l.take m = vput 9 n) := by
  rcases vdec_spec l 0 (by omega) hb with h | ⟨n, m, h1, h2, _, h3, h4, h5, h6⟩
  · exact .inl h
  · exact .inr ⟨n, m, by simpa using h1, by simpa using h2, h3, h4, by omega, by simpa using h6⟩
theorem isB_drop {l : List Int} (h : isB l) (k : Nat) : isB (l.drop k) := fun x hx => h x (List.mem_of_mem_drop hx)
theorem isB_take {l : List Int} (h : isB l) (k : Nat) : isB (l.take k) := fun x hx => h x (List.mem_of_mem_take hx)

/-! ### Uint -/
def whyU (most : Int) (d : Int × Int × Int) : Int := if d.2.2 = 0 ∧ d.1 > most then 6 else d.2.2
def u64O (x : Int) : Ob := .cells 57 [.v (.int .u64 x)]
theorem uint1_fn (G : Gh) (A : Option Addr) (c : Nat) (bs : List Int) (most : Int) (hb : isB bs) (hs : SlB G A c bs) :
    Ct Try.prog 44 [.v (.slice A bs.length c), .p 0 0, .p 1 0] [u64O most, u64O 0] G fun sv H' G' =>
      sv = .tup [.v (.int .i64 (vdec 0 bs).2.1), .v (.int .i64 (whyU most (vdec 0 bs)))] ∧ H' = [u64O most, u64O (if whyU most (vdec 0 bs) = 0 then (vdec 0 bs).1 else 0)] ∧ G' = G := by
  refine fn_of follows [] Try.func44 rfl rfl fun E hE => ?_
  repeat' ((fail_if_success with_reducible refine Stop.mk ?_); (conv => whnf); with_reducible first | refine br_t ?_ | refine br_f ?_ | refine br_nn ?_ | refine br_ns ?_ | refine br_not ?_ | refine br_d (fun h => ?_) (fun h => ?_) | refine br_e (fun h => ?_) (fun h => ?_) | refine br_n (fun h => ?_) (fun h => ?_) | refine drw (by kernel_rfl) ?_ | refine chk (by kernel_rfl) ?_ | refine stop ?_)
  all_goals refine Stop.mk ?_
  refine call_fn [] (get_fn G A c bs hb hs) rfl trivial (by decide) ?_
  rintro sv H' G' ⟨rfl, rfl, rfl⟩ _
  refine ⟨Nat.zero_le _, ?_⟩
  generalize hd : vdec 0 bs = d
  unfold getR
  rw [hd]
  repeat' ((fail_if_success with_reducible refine Stop.mk ?_); (conv => whnf); with_reducible first | refine br_t ?_ | refine br_f ?_ | refine br_nn ?_ | refine br_ns ?_ | refine br_not ?_ | refine br_d (fun h => ?_) (fun h => ?_) | refine br_e (fun h => ?_) (fun h => ?_) | refine br_n (fun h => ?_) (fun h => ?_) | refine drw (by kernel_rfl) ?_ | refine chk (by kernel_rfl) ?_ | refine stop ?_)
  all_goals refine Stop.mk ?_
  all_goals try (exfalso; omega)
  · have hw : whyU most d = 6 := if_pos (by omega)
    exact fin_all ⟨by rw [hw], by rw [hw]; try rfl, rfl⟩
  · have hw : whyU most d = d.2.2 := if_neg (by omega)
    have h2 : d.2.2 = 0 := by assumption
    exact fin_all ⟨by rw [hw], by rw [hw, if_pos h2]; try rfl, rfl⟩
  · have hw : whyU most d = d.2.2 := if_neg (by omega)
    have h2 : d.2.2 ≠ 0 := by assumption
    exact fin_all ⟨by rw [hw], by rw [hw, if_neg h2]; try rfl, rfl⟩
/-- The cursor behind Uint: what is read, the offset, the error. -/
def cUint (bs : List Int) (a : Nat) (e : Int) (most : Int) : Int × Nat × Int :=
  if e ≠ 0 then (0, a, e)
  else if whyU most (vdec 0 (bs.drop a)) = 0 then ((vdec 0 (bs.drop a)).1, a + (vdec 0 (bs.drop a)).2.1.toNat, 0)
  else (0, a, whyU most (vdec 0 (bs.drop a)))
theorem uint_fn (G : Gh) (A : Option Addr) (bs : List Int) (c a : Nat) (e most : Int) (hb : isB bs) (hs : SlB G A c bs) (ha : a ≤ bs.length) :
    Ct Try.prog 27 [.p 0 0, .v (.int .u64 most)] [curO A bs.length c a e] G fun sv H' G' =>
      sv = .v (.int .u64 (cUint bs a e most).1) ∧ H' = [curO A bs.length c (cUint bs a e most).2.1 (cUint bs a e most).2.2] ∧ G' = G := by
  refine fn_of follows [] Try.func27 rfl rfl fun E hE => ?_
  repeat' ((fail_if_success with_reducible refine Stop.mk ?_); (conv => whnf); with_reducible first | refine br_t ?_ | refine br_f ?_ | refine br_nn ?_ | refine br_ns ?_ | refine br_not ?_ | refine br_d (fun h => ?_) (fun h => ?_) | refine br_e (fun h => ?_) (fun h => ?_) | refine br_n (fun h => ?_) (fun h => ?_) | refine drw (by kernel_rfl) ?_ | refine chk (by kernel_rfl) ?_ | refine stop ?_)
  all_goals refine Stop.mk ?_
  have hbd := isB_drop hb a
  refine call_fn [0, 1, 2] (read_fn2 G A bs c a e 44 (u64O most) (u64O 0)
    (fun r why y1 y2 G' => (r : Int) = (vdec 0 (bs.drop a)).2.1 ∧ why = whyU most (vdec 0 (bs.drop a)) ∧ y1 = u64O most ∧ y2 = u64O (if whyU most (vdec 0 (bs.drop a)) = 0 then (vdec 0 (bs.drop a)).1 else 0) ∧ G' = G) hs ha ?_ ?_) rfl ⟨rfl, rfl, rfl, trivial⟩ (by decide) ?_
  · rintro r why y1 y2 G' ⟨h1, h2, _⟩ h0
    have hl : (bs.drop a).length = bs.length - a := by simp
    rcases vdec_form hbd with ⟨x, hx, h⟩ | ⟨n, m, h, h3, h4, h5, _⟩ <;> rw [h] at h1 <;> simp at h1 <;> omega
  · intro he E fr A' K hs' hK
    refine call_fn [1, 2] (uint1_fn G A' (c - a) (bs.drop a) most hbd hs') rfl ⟨rfl, rfl, trivial⟩ (by decide) ?_
    rintro sv H' G' ⟨rfl, rfl, rfl⟩ hg
    obtain ⟨m, hm⟩ : ∃ m : Nat, (m : Int) = (vdec 0 (bs.drop a)).2.1 := by
      rcases vdec_form hbd with ⟨x, hx, h⟩ | ⟨n, m, h, _⟩
      · exact ⟨0, by rw [h]; try rfl⟩
      · exact ⟨m, by rw [h]⟩
    rw [← hm]
    exact ⟨by simp, callEnd_cells rfl (hK _ m _ _ _ _ ⟨hm, rfl, rfl, rfl, rfl⟩ hg)⟩
  · rintro sv H' G' ⟨rfl, hR⟩ hg
    rcases hR with ⟨he, rfl, rfl⟩ | ⟨rfl, r, why, y1, y2, ⟨h1, rfl, rfl, rfl, rfl⟩, rfl⟩
    · refine ⟨by simp, ?_⟩
      repeat' ((fail_if_success with_reducible refine Stop.mk ?_); (conv => whnf); with_reducible first | refine br_t ?_ | refine br_f ?_ | refine br_nn ?_ | refine br_ns ?_ | refine br_not ?_ | refine br_d (fun h => ?_) (fun h => ?_) | refine br_e (fun h => ?_) (fun h => ?_) | refine br_n (fun h => ?_) (fun h => ?_) | refine drw (by kernel_rfl) ?_ | refine chk (by kernel_rfl) ?_ | refine stop ?_)
      all_goals refine Stop.mk ?_
      refine fin_id hE 1 rfl rfl rfl rfl ⟨?_, ?_, rfl⟩ <;> unfold cUint <;> rw [if_pos he]
      rfl
    · refine ⟨by simp, ?_⟩
      repeat' ((fail_if_success with_reducible refine Stop.mk ?_); (conv => whnf); with_reducible first | refine br_t ?_ | refine br_f ?_ | refine br_nn ?_ | refine br_ns ?_ | refine br_not ?_ | refine br_d (fun h => ?_) (fun h => ?_) | refine br_e (fun h => ?_) (fun h => ?_) | refine br_n (fun h => ?_) (fun h => ?_) | refine drw (by kernel_rfl) ?_ | refine chk (by kernel_rfl) ?_ | refine stop ?_)
      all_goals refine Stop.mk ?_
      by_cases hw : whyU most (vdec 0 (bs.drop a)) = 0
      · have hc : cUint bs a 0 most = ((vdec 0 (bs.drop a)).1, a + (vdec 0 (bs.drop a)).2.1.toNat, 0) := by
          unfold cUint; rw [if_neg (by decide), if_pos hw]
        refine fin_id hE 1 rfl rfl rfl rfl ⟨?_, ?_, rfl⟩ <;> rw [hc, if_pos hw]
        show [curO A bs.length c _ _] = _
        rw [← h1, Int.toNat_natCast, if_pos hw, hw]
      · have hc : cUint bs a 0 most = (0, a, whyU most (vdec 0 (bs.drop a))) := by
          unfold cUint; rw [if_neg (by decide), if_neg hw]
        refine fin_id hE 1 rfl rfl rfl rfl ⟨?_, ?_, rfl⟩ <;> rw [hc, if_neg hw]
        show [curO A bs.length c _ _] = _
        rw [if_neg hw]
end Go.Proofs.Ytchebkpcgglllaa.Cu

namespace Go.Proofs.Ytchebkpcgglllaa.Cu
open Go Go.SX Go.Proofs.Ytchebkpcgglllaa.VT
set_option maxRecDepth 100000
set_option linter.unusedVariables false

def u8O (x : Int) : Ob := .cells 5 [.v (.int .u8 x)]
def intO (x : Int) : Ob := .cells 3 [.v (.int .i64 x)]
theorem byte1_fn (G : Gh) (A : Option Addr) (c : Nat) (bs : List Int) (x : Int) (hs : SlB G A c bs) :
    Ct Try.prog 43 [.v (.slice A bs.length c), .p 0 0] [u8O x] G fun sv H' G' =>
      sv = .tup [.v (.int .i64 ((if bs.length = 0 then 0 else 1 : Nat) : Int)), .v (.int .i64 (if bs.length = 0 then 1 else 0))] ∧ H' = [u8O (if bs.length = 0 then x else bs.getD 0 0)] ∧ G' = G := by
  refine fn_of follows [] Try.func43 rfl rfl fun E hE => ?_
  repeat' ((fail_if_success with_reducible refine Stop.mk ?_); (conv => whnf); with_reducible first | refine br_t ?_ | refine br_f ?_ | refine br_nn ?_ | refine br_ns ?_ | refine br_not ?_ | refine br_d (fun h => ?_) (fun h => ?_) | refine br_e (fun h => ?_) (fun h => ?_) | refine br_n (fun h => ?_) (fun h => ?_) | refine drw (by kernel_rfl) ?_ | refine chk (by kernel_rfl) ?_ | refine stop ?_)
  all_goals refine Stop.mk ?_
  · exact fin_all ⟨by rw [if_pos (by omega), if_pos (by omega)]; try rfl, by rw [if_pos (by omega)], rfl⟩
  · refine ⟨⟨by omega, by omega⟩, _, hs, fun ad had hadr => ?_⟩
    repeat' ((fail_if_success with_reducible refine Stop.mk ?_); (conv => whnf); with_reducible first | refine br_t ?_ | refine br_f ?_ | refine br_nn ?_ | refine br_ns ?_ | refine br_not ?_ | refine br_d (fun h => ?_) (fun h => ?_) | refine br_e (fun h => ?_) (fun h => ?_) | refine br_n (fun h => ?_) (fun h => ?_) | refine drw (by kernel_rfl) ?_ | refine chk (by kernel_rfl) ?_ | refine stop ?_)
    all_goals refine Stop.mk ?_
    refine ⟨_, el1 had (by omega), ?_⟩
    repeat' ((fail_if_success with_reducible refine Stop.mk ?_); (conv => whnf); with_reducible first | refine br_t ?_ | refine br_f ?_ | refine br_nn ?_ | refine br_ns ?_ | refine br_not ?_ | refine br_d (fun h => ?_) (fun h => ?_) | refine br_e (fun h => ?_) (fun h => ?_) | refine br_n (fun h => ?_) (fun h => ?_) | refine drw (by kernel_rfl) ?_ | refine chk (by kernel_rfl) ?_ | refine stop ?_)
    all_goals refine Stop.mk ?_
    exact fin_all ⟨by rw [if_neg (by omega), if_neg (by omega)]; try rfl, by rw [if_neg (by omega)]; try rfl, rfl⟩
/-- The cursor behind Byte. -/
def cByte (bs : List Int) (a : Nat) (e : Int) : Int × Nat × Int :=
  if e ≠ 0 then (0, a, e) else if bs.length = a then (0, a, 1) else (bs.getD a 0, a + 1, 0)
theorem byte_fn (G : Gh) (A : Option Addr) (bs : List Int) (c a : Nat) (e : Int) (hb : isB bs) (hs : SlB G A c bs) (ha : a ≤ bs.length) :
    Ct Try.prog 24 [.p 0 0] [curO A bs.length c a e] G fun sv H' G' =>
      sv = .v (.int .u8 (cByte bs a e).1) ∧ H' = [curO A bs.length c (cByte bs a e).2.1 (cByte bs a e).2.2] ∧ G' = G := by
  refine fn_of follows [] Try.func24 rfl rfl fun E hE => ?_
  repeat' ((fail_if_success with_reducible refine Stop.mk ?_); (conv => whnf); with_reducible first | refine br_t ?_ | refine br_f ?_ | refine br_nn ?_ | refine br_ns ?_ | refine br_not ?_ | refine br_d (fun h => ?_) (fun h => ?_) | refine br_e (fun h => ?_) (fun h => ?_) | refine br_n (fun h => ?_) (fun h => ?_) | refine drw (by kernel_rfl) ?_ | refine chk (by kernel_rfl) ?_ | refine stop ?_)
  all_goals refine Stop.mk ?_
  have hl : (bs.drop a).length = bs.length - a := by simp
  refine call_fn [0, 1] (read_fn1 G A bs c a e 43 (u8O 0)
    (fun r why y1 G' => r = (if bs.length = a then 0 else 1) ∧ why = (if bs.length = a then 1 else 0) ∧ y1 = u8O (if bs.length = a then 0 else bs.getD a 0) ∧ G' = G) hs ha ?_ ?_) rfl ⟨rfl, rfl, trivial⟩ (by decide) ?_
  · rintro r why y1 G' ⟨h1, h2, _⟩ h0
    split at h1 <;> split at h2 <;> omega
  · intro he E fr A' K hs' hK
    refine call_fn [1] (byte1_fn G A' (c - a) (bs.drop a) 0 hs') rfl ⟨rfl, trivial⟩ (by decide) ?_
    rintro sv H' G' ⟨rfl, rfl, rfl⟩ hg
    refine ⟨by simp, callEnd_cells rfl (hK _ _ _ _ _ ⟨?_, ?_, ?_, rfl⟩ hg)⟩
    · rw [hl]; by_cases h : bs.length = a
      · rw [if_pos h, if_pos (by omega)]
      · rw [if_neg h, if_neg (by omega)]
    · rw [hl]; by_cases h : bs.length = a
      · rw [if_pos h, if_pos (by omega)]
      · rw [if_neg h, if_neg (by omega)]
    · show u8O _ = _
      rw [hl]; by_cases h : bs.length = a
      · rw [if_pos h, if_pos (by omega)]
      · rw [if_neg h, if_neg (by omega)]; simp [List.getD_eq_getElem?_getD]
  · rintro sv H' G' ⟨rfl, hR⟩ hg
    rcases hR with ⟨he, rfl, rfl⟩ | ⟨rfl, r, why, y1, ⟨rfl, rfl, rfl, rfl⟩, rfl⟩
    · refine ⟨by simp, ?_⟩
      repeat' ((fail_if_success with_reducible refine Stop.mk ?_); (conv => whnf); with_reducible first | refine br_t ?_ | refine br_f ?_ | refine br_nn ?_ | refine br_ns ?_ | refine br_not ?_ | refine br_d (fun h => ?_) (fun h => ?_) | refine br_e (fun h => ?_) (fun h => ?_) | refine br_n (fun h => ?_) (fun h => ?_) | refine drw (by kernel_rfl) ?_ | refine chk (by kernel_rfl) ?_ | refine stop ?_)
      all_goals refine Stop.mk ?_
      have hc : cByte bs a e = (0, a, e) := if_pos he
      refine fin_id hE 1 rfl rfl rfl rfl ⟨?_, ?_, rfl⟩ <;> rw [hc]
      rfl
    · refine ⟨by simp, ?_⟩
      repeat' ((fail_if_success with_reducible refine Stop.mk ?_); (conv => whnf); with_reducible first | refine br_t ?_ | refine br_f ?_ | refine br_nn ?_ | refine br_ns ?_ | refine br_not ?_ | refine br_d (fun h => ?_) (fun h => ?_) | refine br_e (fun h => ?_) (fun h => ?_) | refine br_n (fun h => ?_) (fun h => ?_) | refine drw (by kernel_rfl) ?_ | refine chk (by kernel_rfl) ?_ | refine stop ?_)
      all_goals refine Stop.mk ?_
      by_cases hw : bs.length = a
      · have hc : cByte bs a 0 = (0, a, 1) := by unfold cByte; rw [if_neg (by decide), if_pos hw]
        refine fin_id hE 1 rfl rfl rfl rfl ⟨?_, ?_, rfl⟩ <;> rw [hc]
        · rw [if_pos hw]
        · show [curO A bs.length c _ _] = _
          rw [if_pos hw, if_pos hw, if_neg (by decide)]
      · have hc : cByte bs a 0 = (bs.getD a 0, a + 1, 0) := by unfold cByte; rw [if_neg (by decide), if_neg hw]
        refine fin_id hE 1 rfl rfl rfl rfl ⟨?_, ?_, rfl⟩ <;> rw [hc]
        · rw [if_neg hw]
        · show [curO A bs.length c _ _] = _
          rw [if_neg hw, if_neg hw, if_pos rfl]
theorem uint_range {bs : List Int} (hb : isB bs) (a : Nat) (e most : Int) : 0 ≤ (cUint bs a e most).1 ∧ (cUint bs a e most).1 < 18446744073709551616 := by
  unfold cUint
  rcases vdec_form (isB_drop hb a) with ⟨x, hx, h⟩ | ⟨n, m, h, h3, h4, h5, _⟩ <;> rw [h] <;> (repeat' split) <;> simp <;> omega
theorem int_fn (G : Gh) (A : Option Addr) (bs : List Int) (c a : Nat) (e : Int) (hb : isB bs) (hs : SlB G A c bs) (ha : a ≤ bs.length) :
    Ct Try.prog 65 [.p 0 0] [curO A bs.length c a e] G fun sv H' G' =>
      sv = .v (.int .i64 (unzig (cUint bs a e 18446744073709551615).1)) ∧ H' = [curO A bs.length c (cUint bs a e 18446744073709551615).2.1 (cUint bs a e 18446744073709551615).2.2] ∧ G' = G := by
  refine fn_of follows [] Try.func65 rfl rfl fun E hE => ?_
  repeat' ((fail_if_success with_reducible refine Stop.mk ?_); (conv => whnf); with_reducible first | refine br_t ?_ | refine br_f ?_ | refine br_nn ?_ | refine br_ns ?_ | refine br_not ?_ | refine br_d (fun h => ?_) (fun h => ?_) | refine br_e (fun h => ?_) (fun h => ?_) | refine br_n (fun h => ?_) (fun h => ?_) | refine drw (by kernel_rfl) ?_ | refine chk (by kernel_rfl) ?_ | refine stop ?_)
  all_goals refine Stop.mk ?_
  refine call_fn [0] (uint_fn G A bs c a e 18446744073709551615 hb hs ha) rfl ⟨rfl, trivial⟩ (by decide) ?_
  rintro sv H' G' ⟨rfl, rfl, rfl⟩ hg
  refine ⟨by simp, ?_⟩
  have hr := uint_range hb a e 18446744073709551615
  repeat' ((fail_if_success with_reducible refine Stop.mk ?_); (conv => whnf); with_reducible first | refine br_t ?_ | refine br_f ?_ | refine br_nn ?_ | refine br_ns ?_ | refine br_not ?_ | refine br_d (fun h => ?_) (fun h => ?_) | refine br_e (fun h => ?_) (fun h => ?_) | refine br_n (fun h => ?_) (fun h => ?_) | refine drw (by kernel_rfl) ?_ | refine chk (by kernel_rfl) ?_ | refine stop ?_)
  all_goals refine Stop.mk ?_
  refine call_fn [] (unzigzag_fn _ _ hr.1 hr.2) rfl trivial (by decide) ?_
  rintro sv H' G' ⟨rfl, rfl, rfl⟩ hg
  refine ⟨by simp, ?_⟩
  repeat' ((fail_if_success with_reducible refine Stop.mk ?_); (conv => whnf); with_reducible first | refine br_t ?_ | refine br_f ?_ | refine br_nn ?_ | refine br_ns ?_ | refine br_not ?_ | refine br_d (fun h => ?_) (fun h => ?_) | refine br_e (fun h => ?_) (fun h => ?_) | refine br_n (fun h => ?_) (fun h => ?_) | refine drw (by kernel_rfl) ?_ | refine chk (by kernel_rfl) ?_ | refine stop ?_)
  all_goals refine Stop.mk ?_
  exact fin_all ⟨rfl, rfl, rfl⟩
theorem end_fn (G : Gh) (A : Option Addr) (n c : Nat) (a e : Int) (h0 : 0 ≤ a) (h1 : a ≤ n) (hn : n ≤ 9223372036854775807) :
    Ct Try.prog 30 [.p 0 0] [curO A n c a e] G fun sv H' G' => sv = .tup [] ∧ H' = [curO A n c a (if leftN n a e > 0 then 2 else e)] ∧ G' = G := by
  refine fn_of follows [] Try.func30 rfl rfl fun E hE => ?_
  repeat' ((fail_if_success with_reducible refine Stop.mk ?_); (conv => whnf); with_reducible first | refine br_t ?_ | refine br_f ?_ | refine br_nn ?_ | refine br_ns ?_ | refine br_not ?_ | refine br_d (fun h => ?_) (fun h => ?_) | refine br_e (fun h => ?_) (fun h => ?_) | refine br_n (fun h => ?_) (fun h => ?_) | refine drw (by kernel_rfl) ?_ | refine chk (by kernel_rfl) ?_ | refine stop ?_)
  all_goals refine Stop.mk ?_
  refine call_fn [0] (left_fn G A n c a e h0 h1 hn) rfl ⟨rfl, trivial⟩ (by decide) ?_
  rintro sv H' G' ⟨rfl, rfl, rfl⟩ hg
  refine ⟨by simp, ?_⟩
  repeat' ((fail_if_success with_reducible refine Stop.mk ?_); (conv => whnf); with_reducible first | refine br_t ?_ | refine br_f ?_ | refine br_nn ?_ | refine br_ns ?_ | refine br_not ?_ | refine br_d (fun h => ?_) (fun h => ?_) | refine br_e (fun h => ?_) (fun h => ?_) | refine br_n (fun h => ?_) (fun h => ?_) | refine drw (by kernel_rfl) ?_ | refine chk (by kernel_rfl) ?_ | refine stop ?_)
  all_goals refine Stop.mk ?_
  · refine call_fn [0] (fail_fn _ A n c a e 2) rfl ⟨rfl, trivial⟩ (by decide) ?_
    rintro sv H' G' ⟨rfl, rfl, rfl⟩ hg
    refine ⟨by simp, ?_⟩
    repeat' ((fail_if_success with_reducible refine Stop.mk ?_); (conv => whnf); with_reducible first | refine br_t ?_ | refine br_f ?_ | refine br_nn ?_ | refine br_ns ?_ | refine br_not ?_ | refine br_d (fun h => ?_) (fun h => ?_) | refine br_e (fun h => ?_) (fun h => ?_) | refine br_n (fun h => ?_) (fun h => ?_) | refine drw (by kernel_rfl) ?_ | refine chk (by kernel_rfl) ?_ | refine stop ?_)
    all_goals refine Stop.mk ?_
    refine fin_all ⟨rfl, ?_, rfl⟩
    show [curO A n c a (failE e 2)] = _
    rw [if_pos (by assumption)]
    have he : e = 0 := by have : leftN n a e > 0 := by assumption
                          unfold leftN at this; split at this <;> omega
    rw [failE, if_pos he]
  · refine fin_all ⟨rfl, ?_, rfl⟩
    rw [if_neg (by assumption)]; rfl
end Go.Proofs.Ytchebkpcgglllaa.Cu

namespace Go.Proofs.Ytchebkpcgglllaa.Cu
open Go Go.SX Go.Proofs.Ytchebkpcgglllaa.VT
set_option maxRecDepth 100000
set_option linter.unusedVariables false

/-- What Count says of a decoded number. -/
def whyC (most size len : Int) (d : Int × Int × Int) : Int :=
  if d.2.2 ≠ 0 then d.2.2 else if d.1 > most then 6 else if size > 0 ∧ d.1 > (len - d.2.1) / size then 1 else 0
def resC (most size : Int) (bs : List Int) : Int × Int × Int :=
  if most < 0 ∨ size < 0 then (0, 0, 32)
  else if whyC most size bs.length (vdec 0 bs) = 0 then ((vdec 0 bs).1, (vdec 0 bs).2.1, 0) else (0, 0, whyC most size bs.length (vdec 0 bs))
set_option maxHeartbeats 8000000 in
theorem count1_fn (G : Gh) (A : Option Addr) (c : Nat) (bs : List Int) (most size : Int) (hb : isB bs) (hs : SlB G A c bs) (hm : most ≤ 9223372036854775807) (hz : size ≤ 9223372036854775807) :
    Ct Try.prog 72 [.v (.slice A bs.length c), .p 0 0, .p 1 0, .p 2 0] [intO most, intO size, intO 0] G fun sv H' G' =>
      sv = .tup [.v (.int .i64 (resC most size bs).2.1), .v (.int .i64 (resC most size bs).2.2)] ∧ H' = [intO most, intO size, intO (resC most size bs).1] ∧ G' = G := by
  have hc := hs.cap
  have htop := hs.top
  refine fn_of follows [] Try.func72 rfl rfl fun E hE => ?_
  repeat' ((fail_if_success with_reducible refine Stop.mk ?_); (conv => whnf); with_reducible first | refine br_t ?_ | refine br_f ?_ | refine br_nn ?_ | refine br_ns ?_ | refine br_not ?_ | refine br_d (fun h => ?_) (fun h => ?_) | refine br_e (fun h => ?_) (fun h => ?_) | refine br_n (fun h => ?_) (fun h => ?_) | refine drw (by kernel_rfl) ?_ | refine chk (by kernel_rfl) ?_ | refine stop ?_)
  all_goals refine Stop.mk ?_
  · have hr : resC most size bs = (0, 0, 32) := if_pos (by omega)
    exact fin_all ⟨by rw [hr], by rw [hr], rfl⟩
  · have hr : resC most size bs = (0, 0, 32) := if_pos (by omega)
    exact fin_all ⟨by rw [hr], by rw [hr], rfl⟩
  refine call_fn [] (get_fn G A c bs hb hs) rfl trivial (by decide) ?_
  rintro sv H' G' ⟨rfl, rfl, rfl⟩ _
  refine ⟨Nat.zero_le _, ?_⟩
  have hd0 : 0 ≤ (vdec 0 bs).1 ∧ (vdec 0 bs).1 < 18446744073709551616 ∧ 0 ≤ (vdec 0 bs).2.1 ∧ (vdec 0 bs).2.1 ≤ bs.length := by
    rcases vdec_form hb with ⟨x, hx, h⟩ | ⟨n, m, h, h3, h4, h5, _⟩ <;> rw [h] <;> simp <;> omega
  have hres : ∀ y, whyC most size bs.length (vdec 0 bs) = y → resC most size bs = if y = 0 then ((vdec 0 bs).1, (vdec 0 bs).2.1, 0) else (0, 0, y) := by
    intro y hy; subst hy; unfold resC; rw [if_neg (by omega)]
  unfold getR
  generalize vdec 0 bs = d at *
  repeat' ((fail_if_success with_reducible refine Stop.mk ?_); (conv => whnf); with_reducible first | refine br_t ?_ | refine br_f ?_ | refine br_nn ?_ | refine br_ns ?_ | refine br_not ?_ | refine br_d (fun h => ?_) (fun h => ?_) | refine br_e (fun h => ?_) (fun h => ?_) | refine br_n (fun h => ?_) (fun h => ?_) | refine drw (by kernel_rfl) ?_ | refine chk (by kernel_rfl) ?_ | refine stop ?_)
  all_goals refine Stop.mk ?_
  · have hr := hres 6 (by unfold whyC; rw [IntKind.wrap_u64] at *; rw [if_neg (by omega), if_pos (by omega)])
    exact fin_all ⟨by rw [hr]; try rfl, by rw [hr]; try rfl, rfl⟩
  · refine ⟨by omega, ?_⟩
    have hlen : IntKind.i64.wrap ((bs.length : Int) - d.2.1) = bs.length - d.2.1 := i64_in (by omega) (by omega)
    rw [hlen, Int.tdiv_eq_ediv_of_nonneg (by omega)]
    have hq0 : 0 ≤ ((bs.length : Int) - d.2.1) / size := Int.ediv_nonneg (by omega) (by omega)
    have hq1 : ((bs.length : Int) - d.2.1) / size ≤ (bs.length : Int) - d.2.1 := Int.ediv_le_self _ (by omega)
    have hq : IntKind.u64.wrap (IntKind.i64.wrap (((bs.length : Int) - d.2.1) / size)) = ((bs.length : Int) - d.2.1) / size := by
      rw [i64_in (by omega) (by omega), u64_in (by omega) (by omega)]
    repeat' ((fail_if_success with_reducible refine Stop.mk ?_); (conv => whnf); with_reducible first | refine br_t ?_ | refine br_f ?_ | refine br_nn ?_ | refine br_ns ?_ | refine br_not ?_ | refine br_d (fun h => ?_) (fun h => ?_) | refine br_e (fun h => ?_) (fun h => ?_) | refine br_n (fun h => ?_) (fun h => ?_) | refine drw (by kernel_rfl) ?_ | refine chk (by kernel_rfl) ?_ | refine stop ?_)
    all_goals refine Stop.mk ?_
    · have hr := hres 1 (by unfold whyC; rw [IntKind.wrap_u64] at *; rw [if_neg (by omega), if_neg (by omega), if_pos (by omega)])
      exact fin_all ⟨by rw [hr]; try rfl, by rw [hr]; try rfl, rfl⟩
    · have hr := hres 0 (by unfold whyC; rw [IntKind.wrap_u64] at *; rw [if_neg (by omega), if_neg (by omega), if_neg (by omega)])
      rw [i64_in (n := d.1) (by omega) (by rw [IntKind.wrap_u64] at *; omega)]
      exact fin_all ⟨by rw [hr]; try rfl, by rw [hr]; try rfl, rfl⟩
  · have hr := hres 0 (by unfold whyC; rw [IntKind.wrap_u64] at *; rw [if_neg (by omega), if_neg (by omega), if_neg (by omega)])
    rw [i64_in (n := d.1) (by omega) (by rw [IntKind.wrap_u64] at *; omega)]
    exact fin_all ⟨by rw [hr]; try rfl, by rw [hr]; try rfl, rfl⟩
  · have hne : d.2.2 ≠ 0 := by assumption
    have hr := hres d.2.2 (by unfold whyC; rw [if_pos hne])
    rw [if_neg hne] at hr
    exact fin_all ⟨by rw [hr], by rw [hr]; try rfl, rfl⟩
/-- The cursor behind Count. -/
def cCount (bs : List Int) (a : Nat) (e : Int) (most size : Int) : Int × Nat × Int :=
  if e ≠ 0 then (0, a, e) else
    ((resC most size (bs.drop a)).1, a + (resC most size (bs.drop a)).2.1.toNat, (resC most size (bs.drop a)).2.2)
theorem resC_form {l : List Int} (hb : isB l) (most size : Int) : (∃ e : Int, e ≠ 0 ∧ resC most size l = (0, 0, e)) ∨
    (∃ n m : Nat, 0 ≤ most ∧ 0 ≤ size ∧ resC most size l = ((n : Int), (m : Int), 0) ∧ vdec 0 l = ((n : Int), (m : Int), 0) ∧ (n : Int) ≤ most ∧ (size > 0 → (n : Int) ≤ ((l.length : Int) - m) / size) ∧ m ≤ l.length ∧ 0 < m) := by
  unfold resC
  by_cases h : most < 0 ∨ size < 0
  · rw [if_pos h]; exact .inl ⟨32, by decide, rfl⟩
  · rw [if_neg h]
    by_cases hw : whyC most size l.length (vdec 0 l) = 0
    · rw [if_pos hw]
      rcases vdec_form hb with ⟨x, hx, h0⟩ | ⟨n, m, h0, h3, h4, h5, _⟩
      · rw [h0] at hw; unfold whyC at hw; rw [if_pos (by simp; omega)] at hw; simp only at hw; omega
      · refine .inr ⟨n, m, by omega, by omega, by rw [h0], h0, ?_, fun hs => ?_, h5, h4⟩ <;>
          (rw [h0] at hw; unfold whyC at hw; rw [if_neg (by simp)] at hw; simp only at hw; split at hw <;> try omega)
    · rw [if_neg hw]; exact .inl ⟨_, hw, rfl⟩
theorem count_fn (G : Gh) (A : Option Addr) (bs : List Int) (c a : Nat) (e most size : Int) (hb : isB bs) (hs : SlB G A c bs) (ha : a ≤ bs.length) (hm : most ≤ 9223372036854775807) (hz : size ≤ 9223372036854775807) :
    Ct Try.prog 66 [.p 0 0, .v (.int .i64 most), .v (.int .i64 size)] [curO A bs.length c a e] G fun sv H' G' =>
      sv = .v (.int .i64 (cCount bs a e most size).1) ∧ H' = [curO A bs.length c (cCount bs a e most size).2.1 (cCount bs a e most size).2.2] ∧ G' = G := by
  refine fn_of follows [] Try.func66 rfl rfl fun E hE => ?_
  repeat' ((fail_if_success with_reducible refine Stop.mk ?_); (conv => whnf); with_reducible first | refine br_t ?_ | refine br_f ?_ | refine br_nn ?_ | refine br_ns ?_ | refine br_not ?_ | refine br_d (fun h => ?_) (fun h => ?_) | refine br_e (fun h => ?_) (fun h => ?_) | refine br_n (fun h => ?_) (fun h => ?_) | refine drw (by kernel_rfl) ?_ | refine chk (by kernel_rfl) ?_ | refine stop ?_)
  all_goals refine Stop.mk ?_
  have hbd := isB_drop hb a
  have hl : (bs.drop a).length = bs.length - a := by simp
  have hform := resC_form hbd most size
  refine call_fn [0, 1, 2, 3] (read_fn3 G A bs c a e 72 (intO most) (intO size) (intO 0)
    (fun r why y1 y2 y3 G' => (r : Int) = (resC most size (bs.drop a)).2.1 ∧ why = (resC most size (bs.drop a)).2.2 ∧ y1 = intO most ∧ y2 = intO size ∧ y3 = intO (resC most size (bs.drop a)).1 ∧ G' = G) hs ha ?_ ?_) rfl ⟨rfl, rfl, rfl, rfl, trivial⟩ (by decide) ?_
  · rintro r why y1 y2 y3 G' ⟨h1, h2, _⟩ h0
    rcases hform with ⟨x, hx, h⟩ | ⟨n, m, _, _, h, _, _, _, h5, _⟩ <;> rw [h] at h1 <;> simp at h1 <;> omega
  · intro he E fr A' K hs' hK
    refine call_fn [1, 2, 3] (count1_fn G A' (c - a) (bs.drop a) most size hbd hs' hm hz) rfl ⟨rfl, rfl, rfl, trivial⟩ (by decide) ?_
    rintro sv H' G' ⟨rfl, rfl, rfl⟩ hg
    obtain ⟨m, hm⟩ : ∃ m : Nat, (m : Int) = (resC most size (bs.drop a)).2.1 := by
      rcases hform with ⟨x, hx, h⟩ | ⟨n, m, _, _, h, _⟩
      · exact ⟨0, by rw [h]; try rfl⟩
      · exact ⟨m, by rw [h]⟩
    rw [← hm]
    exact ⟨by simp, callEnd_cells rfl (hK _ m _ _ _ _ _ ⟨hm, rfl, rfl, rfl, rfl, rfl⟩ hg)⟩
  · rintro sv H' G' ⟨rfl, hR⟩ hg
    rcases hR with ⟨he, rfl, rfl⟩ | ⟨rfl, r, why, y1, y2, y3, ⟨h1, rfl, rfl, rfl, rfl, rfl⟩, rfl⟩
    · refine ⟨by simp, ?_⟩
      repeat' ((fail_if_success with_reducible refine Stop.mk ?_); (conv => whnf); with_reducible first | refine br_t ?_ | refine br_f ?_ | refine br_nn ?_ | refine br_ns ?_ | refine br_not ?_ | refine br_d (fun h => ?_) (fun h => ?_) | refine br_e (fun h => ?_) (fun h => ?_) | refine br_n (fun h => ?_) (fun h => ?_) | refine drw (by kernel_rfl) ?_ | refine chk (by kernel_rfl) ?_ | refine stop ?_)
      all_goals refine Stop.mk ?_
      have hc : cCount bs a e most size = (0, a, e) := if_pos he
      refine fin_id hE 1 rfl rfl rfl rfl ⟨?_, ?_, rfl⟩ <;> rw [hc]
      rfl
    · refine ⟨by simp, ?_⟩
      repeat' ((fail_if_success with_reducible refine Stop.mk ?_); (conv => whnf); with_reducible first | refine br_t ?_ | refine br_f ?_ | refine br_nn ?_ | refine br_ns ?_ | refine br_not ?_ | refine br_d (fun h => ?_) (fun h => ?_) | refine br_e (fun h => ?_) (fun h => ?_) | refine br_n (fun h => ?_) (fun h => ?_) | refine drw (by kernel_rfl) ?_ | refine chk (by kernel_rfl) ?_ | refine stop ?_)
      all_goals refine Stop.mk ?_
      have hc : cCount bs a 0 most size = ((resC most size (bs.drop a)).1, a + (resC most size (bs.drop a)).2.1.toNat, (resC most size (bs.drop a)).2.2) := if_neg (by decide)
      refine fin_id hE 1 rfl rfl rfl rfl ⟨?_, ?_, rfl⟩ <;> rw [hc]
      show [curO A bs.length c _ _] = _
      rw [← h1, Int.toNat_natCast]
      by_cases hne : (resC most size (bs.drop a)).2.2 = 0
      · rw [if_pos hne]
      · rw [if_neg hne]
        have h0 : (resC most size (bs.drop a)).2.1 = 0 := by
          rcases hform with ⟨x, hx, h⟩ | ⟨n, m, _, _, h, _⟩
          · rw [h]
          · rw [h] at hne; simp at hne
        obtain rfl : r = 0 := by omega
        rfl

/-! ### Bytes -/
def slO (A : Option Addr) (n c : Nat) : Ob := .cells 22 [.v (.slice A n c)]
theorem bytes1_fn (G : Gh) (A : Option Addr) (c : Nat) (bs : List Int) (n : Int) (hs : SlB G A c bs) (hlen : bs.length ≤ 140737488355328) (hnn : n ≤ 9223372036854775807) :
    Ct Try.prog 46 [.v (.slice A bs.length c), .p 0 0, .p 1 0] [intO n, slO none 0 0] G fun sv H' G' =>
      if n < 0 then sv = .tup [.v (.int .i64 0), .v (.int .i64 32)] ∧ H' = [intO n, slO none 0 0] ∧ G' = G
      else if n > bs.length then sv = .tup [.v (.int .i64 0), .v (.int .i64 1)] ∧ H' = [intO n, slO none 0 0] ∧ G' = G
      else sv = .tup [.v (.int .i64 n), .v (.int .i64 0)] ∧ ∃ A' c', H' = [intO n, slO A' n.toNat c'] ∧ SlB G' A' c' (bs.take n.toNat) := by
  have hc := hs.cap
  have htop := hs.top
  refine fn_of follows [(5, (.cons 0 [] (.cons 1 [] (.cons 2 [] (.cons 3 [] (.cons 4 [0, 2] (.cons 5 [0, 2] .nil)))))))] Try.func46 rfl rfl fun E hE => ?_
  repeat' ((fail_if_success with_reducible refine Stop.mk ?_); (conv => whnf); with_reducible first | refine br_t ?_ | refine br_f ?_ | refine br_nn ?_ | refine br_ns ?_ | refine br_not ?_ | refine br_d (fun h => ?_) (fun h => ?_) | refine br_e (fun h => ?_) (fun h => ?_) | refine br_n (fun h => ?_) (fun h => ?_) | refine drw (by kernel_rfl) ?_ | refine chk (by kernel_rfl) ?_ | refine stop ?_)
  all_goals refine Stop.mk ?_
  · exact fin_all (by rw [if_pos (by assumption)]; exact ⟨rfl, rfl, rfl⟩)
  · exact fin_all (by rw [if_neg (by omega), if_pos (by assumption)]; exact ⟨rfl, rfl, rfl⟩)
  · refine ⟨⟨by omega, by omega⟩, fun A' hA' => ?_⟩
    obtain rfl : A' = A := by rw [hA']; split; · rfl
                              cases A <;> simp [Addr.add]
    repeat' ((fail_if_success with_reducible refine Stop.mk ?_); (conv => whnf); with_reducible first | refine br_t ?_ | refine br_f ?_ | refine br_nn ?_ | refine br_ns ?_ | refine br_not ?_ | refine br_d (fun h => ?_) (fun h => ?_) | refine br_e (fun h => ?_) (fun h => ?_) | refine br_n (fun h => ?_) (fun h => ?_) | refine drw (by kernel_rfl) ?_ | refine chk (by kernel_rfl) ?_ | refine stop ?_)
    all_goals refine Stop.mk ?_
    refine ⟨byts (bs.take n.toNat), slB_take hs n.toNat (by omega), (by show n.toNat * 1 ≤ _; omega), ?_⟩
    repeat' ((fail_if_success with_reducible refine Stop.mk ?_); (conv => whnf); with_reducible first | refine br_t ?_ | refine br_f ?_ | refine br_nn ?_ | refine br_ns ?_ | refine br_not ?_ | refine br_d (fun h => ?_) (fun h => ?_) | refine br_e (fun h => ?_) (fun h => ?_) | refine br_n (fun h => ?_) (fun h => ?_) | refine drw (by kernel_rfl) ?_ | refine chk (by kernel_rfl) ?_ | refine stop ?_)
    all_goals refine Stop.mk ?_
    refine fin_done 2 rfl (byts_one _) fun A c G2 hg hsl => fin_id hE 2 rfl rfl rfl rfl ?_
    rw [if_neg (by assumption), if_neg (by assumption)]
    refine ⟨rfl, A, c, rfl, ?_⟩
    unfold SlB
    rw [List.length_take, Nat.min_eq_left (by omega)]
    exact hsl
end Go.Proofs.Ytchebkpcgglllaa.Cu
