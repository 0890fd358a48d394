/- SXa: SX1, SX2, SX3, SX4, SX5, SXF, SX6, SX7, SX8 in one text. -/
import Derived.WalkKit
import Derived.Orders
import Derived.Shelf.Abstract
import Derived.Maps.AppendAt
import Derived.Laws.StructEq
import Derived.Laws.BytesArg
namespace Go.SX

/-- A symbolic value: what is known; a pointer into object i at a cell; the slice that owns object i; function values, structs, tuples; a value of which nothing is known. -/
inductive SV where
  | v (x : Value)
  | p (i off : Nat)
  | s (i : Nat)
  | f (fn : Fn) (first cap : List SV)
  | agg (xs : List SV)
  | tup (xs : List SV)
  | lit (b : Bool)
  | dead

/-- The block of a pointer to a block's first cell, and of a slice that begins there. -/
def base : Value → Option Nat
  | .pointer (some ⟨b, 0, none⟩) => some b
  | .slice (some ⟨b, 0, none⟩) _ _ => some b
  | _ => none

mutual
def Rv (ρ : List Value) : SV → Value → Prop
  | .v x, y => y = x
  | .p i off, y => ∃ x b, ρ[i]? = some x ∧ base x = some b ∧ y = .pointer (some ⟨b, off, none⟩)
  | .s i, y => ρ[i]? = some y
  | .f fn a c, y => ∃ a' c', y = .func fn a' c' ∧ Rvs ρ a a'.toList ∧ Rvs ρ c c'.toList
  | .agg xs, y => ∃ ys, y = .agg ys ∧ Rvs ρ xs ys.toList
  | .tup xs, y => ∃ ys, y = .tuple ys ∧ Rvs ρ xs ys.toList
  | .lit b, y => y = .bool b
  | .dead, _ => True
def Rvs (ρ : List Value) : List SV → List Value → Prop
  | [], ys => ys = []
  | x :: xs, ys => ∃ y yt, ys = y :: yt ∧ Rv ρ x y ∧ Rvs ρ xs yt
end

mutual
def SV.kill (i : Nat) : SV → SV
  | .v x => .v x
  | .p j o => if Nat.beq j i then .dead else .p j o
  | .s j => if Nat.beq j i then .dead else .s j
  | .f fn a c => .f fn (kills i a) (kills i c)
  | .agg xs => .agg (kills i xs)
  | .tup xs => .tup (kills i xs)
  | .lit b => .lit b
  | .dead => .dead
def kills (i : Nat) : List SV → List SV
  | [] => []
  | x :: xs => x.kill i :: kills i xs
end

mutual
theorem Rv.ext {ρ l : List Value} : ∀ {x : SV} {y : Value}, Rv ρ x y → Rv (ρ ++ l) x y
  | .v _, _, h => by simpa [Rv] using h
  | .p i off, _, h => by
    simp only [Rv] at h ⊢
    obtain ⟨x, b, hb, hx, rfl⟩ := h
    exact ⟨x, b, by rw [List.getElem?_append_left (List.getElem?_eq_some_iff.1 hb).1]; exact hb, hx, rfl⟩
  | .s i, _, h => by
    simp only [Rv] at h ⊢
    rw [List.getElem?_append_left (List.getElem?_eq_some_iff.1 h).1]; exact h
  | .f fn a c, _, h => by
    simp only [Rv] at h ⊢
    obtain ⟨a', c', rfl, h1, h2⟩ := h
    exact ⟨a', c', rfl, Rvs.ext h1, Rvs.ext h2⟩
  | .agg xs, _, h => by
    simp only [Rv] at h ⊢
    obtain ⟨ys, rfl, h1⟩ := h
    exact ⟨ys, rfl, Rvs.ext h1⟩
  | .tup xs, _, h => by
    simp only [Rv] at h ⊢
    obtain ⟨ys, rfl, h1⟩ := h
    exact ⟨ys, rfl, Rvs.ext h1⟩
  | .lit _, _, h => by simpa [Rv] using h
  | .dead, _, _ => by simp [Rv]
theorem Rvs.ext {ρ l : List Value} : ∀ {xs : List SV} {ys : List Value}, Rvs ρ xs ys → Rvs (ρ ++ l) xs ys
  | [], _, h => by simpa [Rvs] using h
  | x :: xs, _, h => by
    simp only [Rvs] at h ⊢
    obtain ⟨y, yt, rfl, h1, h2⟩ := h
    exact ⟨y, yt, rfl, Rv.ext h1, Rvs.ext h2⟩
end

mutual
theorem Rv.kill_ {ρ : List Value} {i : Nat} {u : Value} : ∀ {x : SV} {y : Value}, Rv ρ x y → Rv (ρ.set i u) (x.kill i) y
  | .v _, _, h => by simpa [Rv, SV.kill] using h
  | .p j off, _, h => by
    simp only [SV.kill]
    split
    · simp [Rv]
    · rename_i hne
      simp only [Rv] at h ⊢
      obtain ⟨x, b, hb, hx, rfl⟩ := h
      exact ⟨x, b, by rw [List.getElem?_set_ne (fun e => hne (by simp [e]))]; exact hb, hx, rfl⟩
  | .s j, _, h => by
    simp only [SV.kill]
    split
    · simp [Rv]
    · rename_i hne
      simp only [Rv] at h ⊢
      rw [List.getElem?_set_ne (fun e => hne (by simp [e]))]; exact h
  | .f fn a c, _, h => by
    simp only [Rv, SV.kill] at h ⊢
    obtain ⟨a', c', rfl, h1, h2⟩ := h
    exact ⟨a', c', rfl, Rvs.kill_ h1, Rvs.kill_ h2⟩
  | .agg xs, _, h => by
    simp only [Rv, SV.kill] at h ⊢
    obtain ⟨ys, rfl, h1⟩ := h
    exact ⟨ys, rfl, Rvs.kill_ h1⟩
  | .tup xs, _, h => by
    simp only [Rv, SV.kill] at h ⊢
    obtain ⟨ys, rfl, h1⟩ := h
    exact ⟨ys, rfl, Rvs.kill_ h1⟩
  | .lit _, _, h => by simpa [Rv, SV.kill] using h
  | .dead, _, _ => by simp [Rv, SV.kill]
theorem Rvs.kill_ {ρ : List Value} {i : Nat} {u : Value} : ∀ {xs : List SV} {ys : List Value}, Rvs ρ xs ys → Rvs (ρ.set i u) (kills i xs) ys
  | [], _, h => by simpa [Rvs, kills] using h
  | x :: xs, _, h => by
    simp only [Rvs, kills] at h ⊢
    obtain ⟨y, yt, rfl, h1, h2⟩ := h
    exact ⟨y, yt, rfl, Rv.kill_ h1, Rvs.kill_ h2⟩
end

theorem Rvs.length {ρ : List Value} : ∀ {xs : List SV} {ys : List Value}, Rvs ρ xs ys → ys.length = xs.length
  | [], _, h => by simp only [Rvs] at h; simp [h]
  | x :: xs, _, h => by
    simp only [Rvs] at h
    obtain ⟨y, yt, rfl, _, h2⟩ := h
    simp [h2.length]

theorem Rvs.get {ρ : List Value} : ∀ {xs : List SV} {ys : List Value} {k : Nat} {x : SV}, Rvs ρ xs ys → xs[k]? = some x → ∃ y, ys[k]? = some y ∧ Rv ρ x y
  | [], _, k, x, h, hx => by simp at hx
  | z :: xs, _, k, x, h, hx => by
    simp only [Rvs] at h
    obtain ⟨y, yt, rfl, h1, h2⟩ := h
    cases k with
    | zero => simp at hx; subst hx; exact ⟨y, by simp, h1⟩
    | succ k => exact (by simpa using h2.get (k := k) (x := x) (by simpa using hx))

theorem Rvs.set_ {ρ : List Value} {x : SV} {y : Value} (hv : Rv ρ x y) : ∀ {xs : List SV} {ys : List Value} {k : Nat}, Rvs ρ xs ys → Rvs ρ (xs.set k x) (ys.set k y)
  | [], _, k, h => by simp only [Rvs] at h; simp [h, Rvs]
  | z :: xs, _, k, h => by
    simp only [Rvs] at h
    obtain ⟨y', yt, rfl, h1, h2⟩ := h
    cases k with
    | zero => simp only [List.set_cons_zero, Rvs]; exact ⟨y, yt, rfl, hv, h2⟩
    | succ k => simp only [List.set_cons_succ, Rvs]; exact ⟨y', _, rfl, h1, Rvs.set_ hv h2⟩

theorem Rvs.append {ρ : List Value} : ∀ {xs xs' : List SV} {ys ys' : List Value}, Rvs ρ xs ys → Rvs ρ xs' ys' → Rvs ρ (xs ++ xs') (ys ++ ys')
  | [], _, _, _, h, h' => by simp only [Rvs] at h; subst h; simpa using h'
  | x :: xs, _, _, _, h, h' => by
    simp only [Rvs] at h
    obtain ⟨y, yt, rfl, h1, h2⟩ := h
    simp only [List.cons_append, Rvs]
    exact ⟨y, _, rfl, h1, h2.append h'⟩

theorem Rvs.take_ {ρ : List Value} : ∀ {xs : List SV} {ys : List Value} (k : Nat), Rvs ρ xs ys → Rvs ρ (xs.take k) (ys.take k)
  | [], _, k, h => by simp only [Rvs] at h; subst h; simp [Rvs]
  | x :: xs, _, k, h => by
    simp only [Rvs] at h
    obtain ⟨y, yt, rfl, h1, h2⟩ := h
    cases k with
    | zero => simp [Rvs]
    | succ k => simp only [List.take_succ_cons, Rvs]; exact ⟨y, _, rfl, h1, h2.take_ k⟩

theorem Rvs.drop_ {ρ : List Value} : ∀ {xs : List SV} {ys : List Value} (k : Nat), Rvs ρ xs ys → Rvs ρ (xs.drop k) (ys.drop k)
  | [], _, k, h => by simp only [Rvs] at h; subst h; simp [Rvs]
  | x :: xs, _, k, h => by
    have h0 := h
    simp only [Rvs] at h
    obtain ⟨y, yt, rfl, h1, h2⟩ := h
    cases k with
    | zero => simpa using h0
    | succ k => simpa using h2.drop_ k

theorem Rvs.dead_ {ρ : List Value} : ∀ (ys : List Value), Rvs ρ (List.replicate ys.length .dead) ys
  | [] => by simp [Rvs]
  | y :: ys => by simp only [List.length_cons, List.replicate_succ, Rvs]; exact ⟨y, ys, rfl, by simp [Rv], Rvs.dead_ ys⟩

/-- values that are known -/
def vs (xs : List Value) : List SV := xs.map .v
theorem Rvs.vs_ {ρ : List Value} : ∀ {xs ys : List Value}, Rvs ρ (vs xs) ys → ys = xs
  | [], _, h => by simpa [vs, Rvs] using h
  | x :: xs, _, h => by
    simp only [vs, List.map_cons, Rvs] at h
    obtain ⟨y, yt, rfl, h1, h2⟩ := h
    simp only [Rv] at h1
    rw [h1, Rvs.vs_ (xs := xs) h2]
theorem Rvs.of_vs {ρ : List Value} : ∀ (xs : List Value), Rvs ρ (vs xs) xs
  | [] => by simp [vs, Rvs]
  | x :: xs => by simp only [vs, List.map_cons, Rvs]; exact ⟨x, xs, rfl, by simp [Rv], Rvs.of_vs xs⟩

/-- An object that the walk may change: a row of cells; a slice that the call itself builds; nothing any more. -/
inductive Ob where
  | cells (T : TypeId) (xs : List SV)
  | row (e : TypeId) (size n : Nat) (xs : List Value)
  | lit (T : TypeId) (n : Nat) (xs : List SV)
  | gone

def blkOf : Value → Option Nat
  | .pointer (some a) => some a.block
  | .slice (some a) _ _ => some a.block
  | _ => none

def ObOK (ρ : List Value) (w : World) : Ob → Value → Prop
  | .cells T xs, x => ∃ b cs, x = .pointer (some ⟨b, 0, none⟩) ∧ w.heap[b]? = some (.cells cs T (0, 0)) ∧ Rvs ρ xs cs.toList
  | .row e sz n xs, x => w.ownsRow 0 e sz x n xs
  | .lit T n xs, x => ∃ b cs, x = .slice (some ⟨b, 0, none⟩) n n ∧ w.heap[b]? = some (.cells cs T (0, 0)) ∧ Rvs ρ xs cs.toList
  | .gone, x => x = .nilFunc

def Ob.kill (i : Nat) : Ob → Ob
  | .cells T xs => .cells T (kills i xs)
  | .row e sz n xs => .row e sz n xs
  | .lit T n xs => .lit T n (kills i xs)
  | .gone => .gone

abbrev Gh := Nat → Option Obj

/-- Where the call began: the world, the blocks that it may change, its objects, what nobody changes; what it has deferred; what holds if it panics; what some slots hold throughout. -/
structure Env where
  w0 : World
  F : Nat → Prop
  ρ0 : List Value
  G0 : Gh
  D : List Deferred := []
  Pan : Value → List Ob → Gh → Prop := fun _ _ _ => False
  W : List (Nat × Value) := []

structure Ag (E : Env) (ρ : List Value) (H : List Ob) (G : Gh) (w : World) : Prop where
  len : ρ.length = H.length
  obs : ∀ (i : Nat) ob x, H[i]? = some ob → ρ[i]? = some x → ObOK ρ w ob x
  apart : ∀ (i j : Nat) x y b, ρ[i]? = some x → ρ[j]? = some y → blkOf x = some b → blkOf y = some b → i = j
  own : ∀ (i : Nat) x b, ρ[i]? = some x → blkOf x = some b → b < w.heap.size ∧ G b = none ∧ (E.w0.heap.size ≤ b ∨ E.F b)
  ext : ∀ b o, G b = some o → w.heap[b]? = some o
  frame : ∀ b, b < E.w0.heap.size → ¬ E.F b → w.heap[b]? = E.w0.heap[b]?
  size : E.w0.heap.size ≤ w.heap.size
  os : w.os = E.w0.os
  tape : w.tape = E.w0.tape
  output : w.output = E.w0.output
  old : ∀ (i : Nat) a, E.ρ0[i]? = some (.pointer (some a)) → ρ[i]? = some (.pointer (some a))
  gold : ∀ b o, E.G0 b = some o → G b = some o
  gnew : ∀ b o, G b = some o → E.G0 b = some o ∨ E.w0.heap.size ≤ b ∨ E.F b

theorem ObOK.mono {ρ : List Value} {w w' : World} {ob : Ob} {x : Value} (h : ObOK ρ w ob x) (hb : ∀ b, blkOf x = some b → w'.heap[b]? = w.heap[b]?) : ObOK ρ w' ob x := by
  cases ob with
  | cells T xs =>
    simp only [ObOK] at h ⊢
    obtain ⟨b, cs, rfl, h1, h2⟩ := h
    exact ⟨b, cs, rfl, by rw [hb b rfl]; exact h1, h2⟩
  | lit T n xs =>
    simp only [ObOK] at h ⊢
    obtain ⟨b, cs, rfl, h1, h2⟩ := h
    exact ⟨b, cs, rfl, by rw [hb b rfl]; exact h1, h2⟩
  | row e sz n xs =>
    simp only [ObOK] at h ⊢
    refine ⟨h.1, ?_⟩
    rcases h.2 with h2 | ⟨g, cap, cur, rfl, hg, hgg, rest⟩
    · exact .inl h2
    · exact .inr ⟨g, cap, cur, rfl, hg, by rw [hb g rfl]; exact hgg, rest⟩
  | gone => exact h

theorem ObOK.ext_ {ρ l : List Value} {w : World} {ob : Ob} {x : Value} (h : ObOK ρ w ob x) : ObOK (ρ ++ l) w ob x := by
  cases ob with
  | cells T xs =>
    simp only [ObOK] at h ⊢
    obtain ⟨b, cs, rfl, h1, h2⟩ := h
    exact ⟨b, cs, rfl, h1, h2.ext⟩
  | lit T n xs =>
    simp only [ObOK] at h ⊢
    obtain ⟨b, cs, rfl, h1, h2⟩ := h
    exact ⟨b, cs, rfl, h1, h2.ext⟩
  | row e sz n xs => exact h
  | gone => exact h

theorem ObOK.kill_ {ρ : List Value} {w : World} {ob : Ob} {x u : Value} {i : Nat} (h : ObOK ρ w ob x) : ObOK (ρ.set i u) w (ob.kill i) x := by
  cases ob with
  | cells T xs =>
    simp only [ObOK, Ob.kill] at h ⊢
    obtain ⟨b, cs, rfl, h1, h2⟩ := h
    exact ⟨b, cs, rfl, h1, h2.kill_⟩
  | lit T n xs =>
    simp only [ObOK, Ob.kill] at h ⊢
    obtain ⟨b, cs, rfl, h1, h2⟩ := h
    exact ⟨b, cs, rfl, h1, h2.kill_⟩
  | row e sz n xs => exact h
  | gone => exact h

theorem ObOK.one {ρ : List Value} {w : World} {ob : Ob} {x : Value} (h : ObOK ρ w ob x) : x.oneCell' = true := by
  cases ob with
  | cells T xs => obtain ⟨b, cs, rfl, _⟩ := h; rfl
  | lit T n xs => obtain ⟨b, cs, rfl, _⟩ := h; rfl
  | row e sz n xs =>
    rcases h.2 with ⟨rfl, _⟩ | ⟨g, cap, cur, rfl, _⟩ <;> rfl
  | gone => subst h; rfl

section
variable {E : Env} {ρ : List Value} {H : List Ob} {G : Gh} {w : World}

theorem Ag.one (h : Ag E ρ H G w) {i : Nat} {x : Value} (hx : ρ[i]? = some x) : x.oneCell' = true := by
  have hi := (List.getElem?_eq_some_iff.1 hx).1
  rw [h.len] at hi
  exact (h.obs i _ x (List.getElem?_eq_getElem hi) hx).one

/-- A world that differs in draws alone. -/
theorem Ag.drawn (h : Ag E ρ H G w) (n : Nat) : Ag E ρ H G { w with drawn := n } :=
  ⟨h.len, fun i ob x a b => (h.obs i ob x a b).mono fun _ _ => rfl, h.apart, h.own, h.ext, h.frame, h.size, h.os, h.tape, h.output, h.old, h.gold, h.gnew⟩

/-- A new object. -/
theorem Ag.push (h : Ag E ρ H G w) {w' : World} {x : Value} {ob : Ob} (hg : w.grownBy w' none)
    (hx : ∀ b, blkOf x = some b → w.heap.size ≤ b ∧ b < w'.heap.size) (hob : ObOK (ρ ++ [x]) w' ob x) : Ag E (ρ ++ [x]) (H ++ [ob]) G w' := by
  have hold : ∀ b, b < w.heap.size → w'.heap[b]? = w.heap[b]? := fun b hb => hg.block b hb (by simp)
  have cases_ : ∀ (i : Nat) y, (ρ ++ [x])[i]? = some y → (ρ[i]? = some y) ∨ (i = ρ.length ∧ y = x) := by
    intro i y hy
    rcases Nat.lt_or_ge i ρ.length with hi | hi
    · exact .inl (by rwa [List.getElem?_append_left hi] at hy)
    · rw [List.getElem?_append_right hi] at hy
      rcases Nat.eq_zero_or_pos (i - ρ.length) with h0 | h0
      · rw [h0] at hy; simp at hy; exact .inr ⟨by omega, hy.symm⟩
      · rw [List.getElem?_eq_none (by simp; omega)] at hy; simp at hy
  refine ⟨by simp [h.len], ?_, ?_, ?_, ?_, ?_, Nat.le_trans h.size hg.size, hg.os.trans h.os, hg.tape.trans h.tape, hg.output.trans h.output, fun i a hi => by rw [List.getElem?_append_left (List.getElem?_eq_some_iff.1 (h.old i a hi)).1]; exact h.old i a hi, h.gold, h.gnew⟩
  · intro i ob' y hob' hy
    rcases cases_ i y hy with hy' | ⟨rfl, rfl⟩
    · have hi : i < H.length := by rw [← h.len]; exact (List.getElem?_eq_some_iff.1 hy').1
      rw [List.getElem?_append_left hi] at hob'
      exact ((h.obs i ob' y hob' hy').mono fun b hb => hold b (h.own i y b hy' hb).1).ext_
    · rw [h.len, List.getElem?_append_right (Nat.le_refl _)] at hob'
      simp at hob'; subst hob'; exact hob
  · intro i j y z b hy hz hyb hzb
    rcases cases_ i y hy with hy' | ⟨rfl, rfl⟩ <;> rcases cases_ j z hz with hz' | ⟨rfl, rfl⟩
    · exact h.apart i j y z b hy' hz' hyb hzb
    · have := (hx b hzb).1; have := (h.own i y b hy' hyb).1; omega
    · have := (hx b hyb).1; have := (h.own j z b hz' hzb).1; omega
    · rfl
  · intro i y b hy hyb
    rcases cases_ i y hy with hy' | ⟨rfl, rfl⟩
    · obtain ⟨a, b', c⟩ := h.own i y b hy' hyb
      exact ⟨Nat.lt_of_lt_of_le a hg.size, b', c⟩
    · obtain ⟨h1, h2⟩ := hx b hyb
      refine ⟨h2, ?_, .inl (Nat.le_trans h.size h1)⟩
      cases hgg : G b with
      | none => rfl
      | some o' =>
        have := h.ext _ _ hgg
        rw [Array.getElem?_eq_some_iff] at this
        have := this.1; omega
  · intro b o' hgg
    have := h.ext b o' hgg
    rw [hold b (by rw [Array.getElem?_eq_some_iff] at this; exact this.1)]; exact this
  · intro b hb hF
    rw [hold b (Nat.lt_of_lt_of_le hb h.size)]; exact h.frame b hb hF

theorem grown_alloc (w : World) (o : Obj) : w.grownBy (w.alloc o) none := World.grownBy_alloc w o none

/-- A changed object. -/
theorem Ag.change (h : Ag E ρ H G w) {w' : World} {i : Nat} {x x' : Value} {ob' : Ob} (hx : ρ[i]? = some x) (hnp : ∀ a, x ≠ .pointer (some a))
    (hg : w.grownBy w' (blkOf x)) (hob : ObOK (ρ.set i x') w' ob' x')
    (hb : ∀ b, blkOf x' = some b → b < w'.heap.size ∧ (blkOf x = some b ∨ w.heap.size ≤ b)) :
    Ag E (ρ.set i x') ((H.map (·.kill i)).set i ob') G w' := by
  have hi : i < ρ.length := (List.getElem?_eq_some_iff.1 hx).1
  have hiH : i < H.length := by rw [← h.len]; exact hi
  have keep : ∀ b, b < w.heap.size → blkOf x ≠ some b → w'.heap[b]? = w.heap[b]? := fun b hb hne => hg.block b hb (fun e => hne e.symm)
  have cases_ : ∀ (j : Nat) y, (ρ.set i x')[j]? = some y → (j = i ∧ y = x') ∨ (j ≠ i ∧ ρ[j]? = some y) := by
    intro j y hy
    by_cases hj : i = j
    · subst hj; rw [List.getElem?_set_self hi] at hy; simp at hy; exact .inl ⟨rfl, hy.symm⟩
    · rw [List.getElem?_set_ne hj] at hy; exact .inr ⟨fun e => hj e.symm, hy⟩
  have hold' : ∀ (j : Nat) a, E.ρ0[j]? = some (.pointer (some a)) → (ρ.set i x')[j]? = some (.pointer (some a)) := fun j a hj => by
    have h1 := h.old j a hj
    by_cases hij : i = j
    · subst hij; rw [hx] at h1; simp at h1; exact absurd h1 (hnp a)
    · rw [List.getElem?_set_ne hij]; exact h1
  refine ⟨by simp [h.len], ?_, ?_, ?_, ?_, ?_, Nat.le_trans h.size hg.size, hg.os.trans h.os, hg.tape.trans h.tape, hg.output.trans h.output, hold', h.gold, h.gnew⟩
  · intro j ob y hob' hy
    rcases cases_ j y hy with ⟨rfl, rfl⟩ | ⟨hj, hy'⟩
    · rw [List.getElem?_set_self (by simpa using hiH)] at hob'; simp at hob'; subst hob'; exact hob
    · rw [List.getElem?_set_ne (fun e => hj e.symm), List.getElem?_map] at hob'
      obtain ⟨ob0, h0, rfl⟩ := Option.map_eq_some_iff.1 hob'
      refine ((h.obs j ob0 y h0 hy').mono fun b hyb => keep b (h.own j y b hy' hyb).1 fun hxb => hj (h.apart j i y x b hy' hx hyb hxb)).kill_
  · intro j k y z b hy hz hyb hzb
    rcases cases_ j y hy with ⟨rfl, rfl⟩ | ⟨hj, hy'⟩ <;> rcases cases_ k z hz with ⟨rfl, rfl⟩ | ⟨hk, hz'⟩
    · rfl
    · rcases (hb b hyb).2 with h1 | h1
      · exact absurd (h.apart k j z x b hz' hx hzb h1) hk
      · have := (h.own k z b hz' hzb).1; omega
    · rcases (hb b hzb).2 with h1 | h1
      · exact absurd (h.apart j k y x b hy' hx hyb h1) hj
      · have := (h.own j y b hy' hyb).1; omega
    · exact h.apart j k y z b hy' hz' hyb hzb
  · intro j y b hy hyb
    rcases cases_ j y hy with ⟨rfl, rfl⟩ | ⟨hj, hy'⟩
    · obtain ⟨h1, h2⟩ := hb b hyb
      refine ⟨h1, ?_⟩
      rcases h2 with h2 | h2
      · exact (h.own j x b hx h2).2
      · refine ⟨?_, .inl (Nat.le_trans h.size h2)⟩
        cases hgg : G b with
        | none => rfl
        | some o' =>
          have := h.ext _ _ hgg
          rw [Array.getElem?_eq_some_iff] at this
          have := this.1; omega
    · obtain ⟨a, b', c⟩ := h.own j y b hy' hyb
      exact ⟨Nat.lt_of_lt_of_le a hg.size, b', c⟩
  · intro b o' hgg
    have he := h.ext b o' hgg
    have hlt : b < w.heap.size := by rw [Array.getElem?_eq_some_iff] at he; exact he.1
    rw [keep b hlt (fun hxb => by have := (h.own i x b hx hxb).2.1; rw [hgg] at this; simp at this)]; exact he
  · intro b hb' hF
    rw [keep b (Nat.lt_of_lt_of_le hb' h.size) (fun hxb => by
      rcases (h.own i x b hx hxb).2.2 with h1 | h1
      · omega
      · exact hF h1)]
    exact h.frame b hb' hF

/-- A store into an object of cells. -/
theorem Ag.store (h : Ag E ρ H G w) {w' : World} {i : Nat} {x : Value} {ob' : Ob} (hx : ρ[i]? = some x)
    (hg : w.grownBy w' (blkOf x)) (hob : ObOK ρ w' ob' x) : Ag E ρ (H.set i ob') G w' := by
  have hi : i < ρ.length := (List.getElem?_eq_some_iff.1 hx).1
  have hiH : i < H.length := by rw [← h.len]; exact hi
  have keep : ∀ b, b < w.heap.size → blkOf x ≠ some b → w'.heap[b]? = w.heap[b]? := fun b hb hne => hg.block b hb (fun e => hne e.symm)
  refine ⟨by simp [h.len], ?_, h.apart, ?_, ?_, ?_, Nat.le_trans h.size hg.size, hg.os.trans h.os, hg.tape.trans h.tape, hg.output.trans h.output, h.old, h.gold, h.gnew⟩
  · intro j ob y hob' hy
    by_cases hj : i = j
    · subst hj
      rw [List.getElem?_set_self hiH] at hob'
      simp at hob'; subst hob'
      rw [hx] at hy; simp at hy; subst hy; exact hob
    · rw [List.getElem?_set_ne hj] at hob'
      exact (h.obs j ob y hob' hy).mono fun b hyb => keep b (h.own j y b hy hyb).1 fun hxb => hj (h.apart i j x y b hx hy hxb hyb)
  · intro j y b hy hyb
    obtain ⟨a, b', c⟩ := h.own j y b hy hyb
    exact ⟨Nat.lt_of_lt_of_le a hg.size, b', c⟩
  · intro b o' hgg
    have he := h.ext b o' hgg
    have hlt : b < w.heap.size := by rw [Array.getElem?_eq_some_iff] at he; exact he.1
    rw [keep b hlt (fun hxb => by have := (h.own i x b hx hxb).2.1; rw [hgg] at this; simp at this)]; exact he
  · intro b hb' hF
    rw [keep b (Nat.lt_of_lt_of_le hb' h.size) (fun hxb => by
      rcases (h.own i x b hx hxb).2.2 with h1 | h1
      · omega
      · exact hF h1)]
    exact h.frame b hb' hF

/-- An object that nobody will change any more: what its block holds is known from now on. -/
theorem Ag.freeze (h : Ag E ρ H G w) {i : Nat} {x : Value} (hx : ρ[i]? = some x) (hnp : ∀ a, x ≠ .pointer (some a)) :
    Ag E (ρ.set i .nilFunc) ((H.map (·.kill i)).set i .gone) (fun b => if blkOf x = some b then w.heap[b]? else G b) w := by
  have hi : i < ρ.length := (List.getElem?_eq_some_iff.1 hx).1
  have hiH : i < H.length := by rw [← h.len]; exact hi
  have cases_ : ∀ (j : Nat) y, (ρ.set i .nilFunc)[j]? = some y → (j = i ∧ y = .nilFunc) ∨ (j ≠ i ∧ ρ[j]? = some y) := by
    intro j y hy
    by_cases hj : i = j
    · subst hj; rw [List.getElem?_set_self hi] at hy; simp at hy; exact .inl ⟨rfl, hy.symm⟩
    · rw [List.getElem?_set_ne hj] at hy; exact .inr ⟨fun e => hj e.symm, hy⟩
  have hold' : ∀ (j : Nat) a, E.ρ0[j]? = some (.pointer (some a)) → (ρ.set i .nilFunc)[j]? = some (.pointer (some a)) := fun j a hj => by
    have h1 := h.old j a hj
    by_cases hij : i = j
    · subst hij; rw [hx] at h1; simp at h1; exact absurd h1 (hnp a)
    · rw [List.getElem?_set_ne hij]; exact h1
  have hgold : ∀ b o, E.G0 b = some o → (if blkOf x = some b then w.heap[b]? else G b) = some o := fun b o hb => by
    have h1 := h.gold b o hb
    rw [if_neg (fun hxb => by have := (h.own i x b hx hxb).2.1; rw [h1] at this; simp at this)]
    exact h1
  have hgnew : ∀ b o, (if blkOf x = some b then w.heap[b]? else G b) = some o → E.G0 b = some o ∨ E.w0.heap.size ≤ b ∨ E.F b := fun b o hb => by
    by_cases hxb : blkOf x = some b
    · exact .inr (h.own i x b hx hxb).2.2
    · rw [if_neg hxb] at hb; exact h.gnew b o hb
  refine ⟨by simp [h.len], ?_, ?_, ?_, ?_, h.frame, h.size, h.os, h.tape, h.output, hold', hgold, hgnew⟩
  · intro j ob y hob' hy
    rcases cases_ j y hy with ⟨rfl, rfl⟩ | ⟨hj, hy'⟩
    · rw [List.getElem?_set_self (by simpa using hiH)] at hob'; simp at hob'; subst hob'; rfl
    · rw [List.getElem?_set_ne (fun e => hj e.symm), List.getElem?_map] at hob'
      obtain ⟨ob0, h0, rfl⟩ := Option.map_eq_some_iff.1 hob'
      exact (h.obs j ob0 y h0 hy').kill_
  · intro j k y z b hy hz hyb hzb
    rcases cases_ j y hy with ⟨rfl, rfl⟩ | ⟨hj, hy'⟩
    · simp [blkOf] at hyb
    · rcases cases_ k z hz with ⟨rfl, rfl⟩ | ⟨hk, hz'⟩
      · simp [blkOf] at hzb
      · exact h.apart j k y z b hy' hz' hyb hzb
  · intro j y b hy hyb
    rcases cases_ j y hy with ⟨rfl, rfl⟩ | ⟨hj, hy'⟩
    · simp [blkOf] at hyb
    · obtain ⟨a, b', c⟩ := h.own j y b hy' hyb
      refine ⟨a, ?_, c⟩
      rw [if_neg (fun hxb => hj (h.apart j i y x b hy' hx hyb hxb))]; exact b'
  · intro b o' hgg
    split at hgg
    · exact hgg
    · exact h.ext b o' hgg
end
end Go.SX

namespace Go.SX

structure St where
  fr : List SV
  H : List Ob
  G : Gh

/-- The parts of a state, as they stand. -/
def St.un (s : St) (k : List SV → List Ob → Gh → Prop) : Prop := match s with
  | ⟨a, b, c⟩ => k a b c
theorem St.un_eq (s : St) (k : List SV → List Ob → Gh → Prop) : s.un k = k s.fr s.H s.G := rfl

/-- What the walk does not take. -/
structure Bad (o : Oper) : Prop where
  no : False

def nth {α : Type} : List α → Nat → Option α
  | [], _ => none
  | a :: _, 0 => some a
  | _ :: l, n + 1 => nth l n
theorem nth_eq {α : Type} : ∀ (l : List α) (n : Nat), nth l n = l[n]?
  | [], n => by simp [nth]
  | a :: l, 0 => by simp [nth]
  | a :: l, n + 1 => by simp [nth, nth_eq l n]

/-- A small number as a numeral. -/
def litN : Nat → (Nat → Prop) → Prop
  | 0, k => k 0
  | 1, k => k 1
  | 2, k => k 2
  | 3, k => k 3
  | 4, k => k 4
  | 5, k => k 5
  | 6, k => k 6
  | 7, k => k 7
  | 8, k => k 8
  | 9, k => k 9
  | 10, k => k 10
  | 11, k => k 11
  | 12, k => k 12
  | 13, k => k 13
  | 14, k => k 14
  | 15, k => k 15
  | 16, k => k 16
  | 17, k => k 17
  | 18, k => k 18
  | 19, k => k 19
  | 20, k => k 20
  | 21, k => k 21
  | 22, k => k 22
  | 23, k => k 23
  | 24, k => k 24
  | 25, k => k 25
  | 26, k => k 26
  | 27, k => k 27
  | 28, k => k 28
  | 29, k => k 29
  | 30, k => k 30
  | 31, k => k 31
  | 32, k => k 32
  | 33, k => k 33
  | 34, k => k 34
  | 35, k => k 35
  | 36, k => k 36
  | 37, k => k 37
  | 38, k => k 38
  | 39, k => k 39
  | 40, k => k 40
  | n, k => k n
theorem litN_eq (n : Nat) (k : Nat → Prop) : litN n k = k n := by unfold litN; split <;> rfl

def forceSp {α : Type} : List α → (List α → Prop) → Prop
  | [], k => k []
  | a :: l, k => forceSp l fun l' => k (a :: l')
theorem forceSp_eq {α : Type} : ∀ (l : List α) (k : List α → Prop), forceSp l k = k l
  | [], _ => rfl
  | a :: l, k => by simp [forceSp, forceSp_eq l]

mutual
def forceSV : SV → (SV → Prop) → Prop
  | .v x, k => k (.v x)
  | .p i o, k => litN i fun i => k (.p i o)
  | .s i, k => litN i fun i => k (.s i)
  | .f fn a c, k => forceL a fun a' => forceL c fun c' => k (.f fn a' c')
  | .agg xs, k => forceL xs fun xs' => k (.agg xs')
  | .tup xs, k => forceL xs fun xs' => k (.tup xs')
  | .lit b, k => k (.lit b)
  | .dead, k => k .dead
def forceL : List SV → (List SV → Prop) → Prop
  | [], k => k []
  | x :: xs, k => forceSV x fun x' => forceL xs fun xs' => k (x' :: xs')
end
mutual
theorem forceSV_eq : ∀ (x : SV) (k : SV → Prop), forceSV x k = k x
  | .v _, _ => by simp [forceSV]
  | .p _ _, _ => by simp [forceSV, litN_eq]
  | .s _, _ => by simp [forceSV, litN_eq]
  | .f fn a c, k => by simp [forceSV, forceL_eq a, forceL_eq c]
  | .agg xs, k => by simp [forceSV, forceL_eq xs]
  | .tup xs, k => by simp [forceSV, forceL_eq xs]
  | .lit _, _ => by simp [forceSV]
  | .dead, _ => by simp [forceSV]
theorem forceL_eq : ∀ (x : List SV) (k : List SV → Prop), forceL x k = k x
  | [], _ => by simp [forceL]
  | x :: xs, k => by simp [forceL, forceSV_eq x, forceL_eq xs]
end

def evr (fr : List SV) : Operand → SV
  | .tmp t => match nth fr t with
    | some x => x
    | none => .dead
  | .const v => .v v
  | .global g => .v (.pointer (some ⟨g, 0, none⟩))
  | .func f => .f (.func f) [] []
def nrm : SV → SV
  | .lit b => .v (.bool b)
  | .v x => .v x
  | .p i o => .p i o
  | .s i => .s i
  | .f a b c => .f a b c
  | .agg xs => .agg xs
  | .tup xs => .tup xs
  | .dead => .dead
def ev (fr : List SV) (x : Operand) : SV := nrm (evr fr x)

def evs (fr : List SV) : List Operand → List SV
  | [] => []
  | x :: xs => ev fr x :: evs fr xs

theorem evr_ok {ρ : List Value} {fr : List SV} {a : Act} (h : Rvs ρ fr a.tmps.toList) (x : Operand) : Rv ρ (evr fr x) (a.eval x) := by
  cases x with
  | tmp t =>
    simp only [evr, nth_eq]
    cases hx : fr[t]? with
    | none => simp [Rv]
    | some sv =>
      obtain ⟨y, hy, hv⟩ := h.get hx
      have : a.eval (.tmp t) = y := by
        simp only [Act.eval]
        rw [Array.getElem?_toList] at hy
        simp [Array.getD_eq_getD_getElem?, hy]
      rw [this]; exact hv
  | const v => simp [evr, Rv, Act.eval]
  | global g => simp [evr, Rv, Act.eval]
  | func f => simp [evr, Rv, Act.eval, Rvs]
theorem nrm_ok {ρ : List Value} {x : SV} {y : Value} (h : Rv ρ x y) : Rv ρ (nrm x) y := by
  cases x <;> first | exact h | (simp only [nrm, Rv] at h ⊢; exact h)
theorem ev_ok {ρ : List Value} {fr : List SV} {a : Act} (h : Rvs ρ fr a.tmps.toList) (x : Operand) : Rv ρ (ev fr x) (a.eval x) := nrm_ok (evr_ok h x)

theorem evs_ok {ρ : List Value} {fr : List SV} {a : Act} (h : Rvs ρ fr a.tmps.toList) : ∀ (xs : List Operand), Rvs ρ (evs fr xs) (xs.map a.eval)
  | [] => by simp [evs, Rvs]
  | x :: xs => by simp only [evs, List.map_cons, Rvs]; exact ⟨_, _, rfl, ev_ok h x, evs_ok h xs⟩

def tyAgg (P : Program) (t : TypeId) : Option Bool :=
  match P.underlying t with
  | some (.struct _) => some true
  | some (.array _ _) => some true
  | some _ => some false
  | none => none
def szOf (P : Program) (t : TypeId) : Option Nat :=
  match P.info? t with
  | some i => some i.size
  | none => none

theorem run_isAgg' {P : Program} {t : TypeId} {b : Bool} (h : tyAgg P t = some b) (w : World) : (isAgg t).run P w = .ok b w := by
  unfold tyAgg at h
  cases hu : P.underlying t with
  | none => simp [hu] at h
  | some d =>
    rw [hu] at h
    cases d <;> simp at h <;> subst h <;> simp [isAgg, run_underlying hu]
theorem run_sizeOf' {P : Program} {t : TypeId} {n : Nat} (h : szOf P t = some n) (w : World) : (sizeOf t).run P w = .ok n w := by
  unfold szOf at h
  cases hu : P.info? t with
  | none => simp [hu] at h
  | some i => rw [hu] at h; simp at h; subst h; simp [sizeOf, typeInfo, hu]

def cellsOf : SV → Option (List SV)
  | .v (.agg ys) => some (vs ys.toList)
  | .v (.tuple _) => none
  | .v x => some [.v x]
  | .p i o => some [.p i o]
  | .s i => some [.s i]
  | .f a b c => some [.f a b c]
  | .agg xs => some xs
  | .tup _ => none
  | .lit b => some [.v (.bool b)]
  | .dead => none
def one : SV → Bool
  | .v (.agg _) => false
  | .v (.tuple _) => false
  | .v _ => true
  | .p _ _ => true
  | .s _ => true
  | .f _ _ _ => true
  | _ => false
def allOne : List SV → Bool
  | [] => true
  | x :: xs => if one x then allOne xs else false

section
variable {E : Env} {ρ : List Value} {H : List Ob} {G : Gh} {w : World}

theorem one_ok (h : Ag E ρ H G w) {x : SV} {y : Value} (hv : Rv ρ x y) (hx : one x = true) : y.oneCell' = true := by
  cases x with
  | v x => simp only [Rv] at hv; subst hv; cases y <;> simp_all [one, Value.oneCell']
  | p i o => simp only [Rv] at hv; obtain ⟨x, b, _, _, rfl⟩ := hv; rfl
  | s i => simp only [Rv] at hv; exact h.one hv
  | f fn a c => simp only [Rv] at hv; obtain ⟨a', c', rfl, _⟩ := hv; rfl
  | agg xs => simp [one] at hx
  | tup xs => simp [one] at hx
  | lit b => simp [one] at hx
  | dead => simp [one] at hx
theorem allOne_ok (h : Ag E ρ H G w) : ∀ {xs : List SV} {ys : List Value}, Rvs ρ xs ys → allOne xs = true → ∀ v ∈ ys, v.oneCell' = true
  | [], _, hv, _ => by simp only [Rvs] at hv; subst hv; simp
  | x :: xs, _, hv, hx => by
    simp only [Rvs] at hv
    obtain ⟨y, yt, rfl, h1, h2⟩ := hv
    simp only [allOne] at hx
    split at hx
    · rename_i ho
      intro v hm
      rcases List.mem_cons.1 hm with rfl | hm
      · exact one_ok h h1 ho
      · exact allOne_ok h h2 hx v hm
    · simp at hx
theorem cells_of_one {v : Value} (h : v.oneCell' = true) : v.cells = #[v] := by cases v <;> simp_all [Value.oneCell', Value.cells]
theorem cellsOf_ok (h : Ag E ρ H G w) {x : SV} {y : Value} (hv : Rv ρ x y) {xs : List SV} (hx : cellsOf x = some xs) : Rvs ρ xs y.cells.toList := by
  have single : ∀ {x' : SV}, one x' = true → Rv ρ x' y → Rvs ρ [x'] y.cells.toList := fun ho hr => by
    rw [cells_of_one (one_ok h hr ho)]
    simp only [Rvs]
    exact ⟨y, [], rfl, hr, rfl⟩
  cases x with
  | v x =>
    have hr := hv
    simp only [Rv] at hv; subst hv
    cases y <;> simp [cellsOf] at hx <;> subst hx <;> first
      | exact single rfl hr
      | exact Rvs.of_vs _
  | p i o => simp [cellsOf] at hx; subst hx; exact single rfl hv
  | s i => simp [cellsOf] at hx; subst hx; exact single rfl hv
  | f fn a c => simp [cellsOf] at hx; subst hx; exact single rfl hv
  | agg xs' => simp [cellsOf] at hx; subst hx; simp only [Rv] at hv; obtain ⟨ys, rfl, h1⟩ := hv; exact h1
  | tup xs => simp [cellsOf] at hx
  | lit b => simp [cellsOf] at hx; subst hx; simp only [Rv] at hv; subst hv; exact single rfl (by simp [Rv])
  | dead => simp [cellsOf] at hx

/-- A cell of memory that nobody changes. -/
def Gcell (G : Gh) (a : Addr) : Option Value :=
  match G a.block with
  | some (.cells c _ _) => if a.spot.isSome then none else c[a.off]?
  | _ => none
def Gat (G : Gh) (a : Addr) (ys : List Value) : Prop := ∀ j v, ys[j]? = some v → Gcell G (a.add j) = some v
theorem Ag.cell (h : Ag E ρ H G w) {a : Addr} {v : Value} (hc : Gcell G a = some v) : w.cell? a = some v := by
  unfold Gcell at hc
  unfold World.cell?
  cases hg : G a.block with
  | none => simp [hg] at hc
  | some o => rw [h.ext _ _ hg]; rw [hg] at hc; exact hc

def idsS : List SV → List Nat
  | [] => []
  | .s k :: l => k :: idsS l
  | _ :: l => idsS l
/-- The objects that are done once this is appended. -/
def apT (s : St) (y : Operand) : List Nat :=
  match ev s.fr y with
  | .s j => match nth s.H j with
    | some (.lit _ _ zs) => idsS zs
    | _ => []
  | _ => []
/-- The objects that an operation changes. -/
def tcOf (s : St) (o : Oper) : List Nat :=
  match o.op with
  | .store _ x _ => match ev s.fr x with
    | .p i _ => [i]
    | _ => []
  | .call { callee := .builtin _, args, .. } => match args.toList with
    | [x, y] => match ev s.fr x with
      | .s i => i :: apT s y
      | _ => apT s y
    | _ => []
  | _ => []
/-- What is not changed. -/
structure Fp (ρ ρ' : List Value) (G G' : Gh) (T : List Nat) (w w' : World) : Prop where
  blk : ∀ b, b < w.heap.size → (∀ i ∈ T, ∀ x, ρ[i]? = some x → blkOf x ≠ some b) → w'.heap[b]? = w.heap[b]?
  ids : ∀ (i : Nat) x, i ∉ T → ρ[i]? = some x → ρ'[i]? = some x
  gh : ∀ b o, G b = some o → G' b = some o
theorem Fp.blk_grown {w' : World} {T : List Nat} {row : Option Nat} (hg : w.grownBy w' row) (h : ∀ b, row = some b → ∃ i ∈ T, ∃ x, ρ[i]? = some x ∧ blkOf x = some b) :
    ∀ b, b < w.heap.size → (∀ i ∈ T, ∀ x, ρ[i]? = some x → blkOf x ≠ some b) → w'.heap[b]? = w.heap[b]? := by
  intro b hb hT
  refine hg.block b hb fun hr => ?_
  obtain ⟨i, hi, x, hx, hbx⟩ := h b hr.symm
  exact hT i hi x hx hbx
theorem Fp.grown {w' : World} {T : List Nat} {row : Option Nat} (hg : w.grownBy w' row) (h : ∀ b, row = some b → ∃ i ∈ T, ∃ x, ρ[i]? = some x ∧ blkOf x = some b) : Fp ρ ρ G G T w w' :=
  ⟨Fp.blk_grown hg h, fun _ _ _ hx => hx, fun _ _ hx => hx⟩
theorem Fp.push {w' : World} {T : List Nat} {l : List Value} (hg : w.grownBy w' none) : Fp ρ (ρ ++ l) G G T w w' :=
  ⟨Fp.blk_grown hg (by simp), fun i x _ hx => by rw [List.getElem?_append_left (List.getElem?_eq_some_iff.1 hx).1]; exact hx, fun _ _ hx => hx⟩
theorem Fp.set_ {w' : World} {T : List Nat} {row : Option Nat} {i : Nat} {v : Value} (hg : w.grownBy w' row) (h : ∀ b, row = some b → ∃ i ∈ T, ∃ x, ρ[i]? = some x ∧ blkOf x = some b) (hi : i ∈ T) : Fp ρ (ρ.set i v) G G T w w' :=
  ⟨Fp.blk_grown hg h, fun j x hj hx => by rw [List.getElem?_set_ne (fun (e : i = j) => hj (by rw [← e]; exact hi))]; exact hx, fun _ _ hx => hx⟩

/-- What an operation with an effect must come to. -/
def Ok (P : Program) (E : Env) (o : Oper) (s : St) (S : (SV → St → Prop) → Prop) : Prop :=
  ∀ (K : SV → St → Prop) (next : Act → World → Prop) (Q : Exit → Act → World → Prop) (a : Act) (ρ : List Value) (w : World),
    (∀ sv s', K sv s' → ∀ ρ' v w', Ag E ρ' s'.H s'.G w' → Rvs ρ' s'.fr a.tmps.toList → Rv ρ' sv v → Fp ρ ρ' s.G s'.G (tcOf s o) w w' → next (a.put o.dst v) w') →
    S K → Ag E ρ s.H s.G w → Rvs ρ s.fr a.tmps.toList → o.wp P a w next Q

/-- The objects that a quiet operation reads. -/
def rdOf (s : St) (o : Oper) : List Nat :=
  match o.op with
  | .load _ x => match ev s.fr x with
    | .p i _ => [i]
    | _ => []
  | _ => []
/-- Two worlds that agree where it matters. -/
def Agr (G : Gh) (ρ : List Value) (rd : List Nat) (w w' : World) : Prop :=
  (∀ b o, G b = some o → w'.heap[b]? = w.heap[b]?) ∧ (∀ i ∈ rd, ∀ x b, ρ[i]? = some x → blkOf x = some b → w'.heap[b]? = w.heap[b]?)
theorem Agr.refl (G : Gh) (ρ : List Value) (rd : List Nat) (w : World) : Agr G ρ rd w w := ⟨fun _ _ _ => rfl, fun _ _ _ _ _ _ => rfl⟩
/-- What an operation without an effect must come to. -/
def Qu (P : Program) (E : Env) (o : Oper) (s : St) (S : (SV → Prop) → Prop) : Prop :=
  ∀ (K : SV → Prop) (a : Act) (ρ : List Value) (w : World), S K → Ag E ρ s.H s.G w → Rvs ρ s.fr a.tmps.toList →
    ∃ v sv, K sv ∧ Rv ρ sv v ∧ ∀ w', Agr s.G ρ (rdOf s o) w w' → (execOp a.eval o).run P w' = .ok (.value v) w'

theorem Gcell_agr {rd : List Nat} {w' : World} {a : Addr} {v : Value} (hA : Ag E ρ H G w) (hg : Agr G ρ rd w w') (hc : Gcell G a = some v) : w'.cell? a = some v := by
  have h := hA.cell hc
  unfold Gcell at hc
  cases hb : G a.block with
  | none => simp [hb] at hc
  | some o => rw [World.cell?_of_block (hg.1 _ _ hb)]; exact h

theorem wp_value {P : Program} {o : Oper} {a : Act} {w w' : World} {next : Act → World → Prop} {Q : Exit → Act → World → Prop} {v : Value}
    (hr : (execOp a.eval o).run P w = .ok (.value v) w') (h : next (a.put o.dst v) w') : o.wp P a w next Q := by
  unfold Oper.wp; rw [hr]; exact h
theorem wp_skip' {P : Program} {o : Oper} {a : Act} {w w' : World} {next : Act → World → Prop} {Q : Exit → Act → World → Prop}
    (hr : (execOp a.eval o).run P w = .ok .skip w') (h : next (a.put o.dst undef) w') : o.wp P a w next Q := by
  unfold Oper.wp; rw [hr]; exact h

/-! ### loads -/
def ldMany (o : Oper) (xs : List SV) (off n : Nat) (k : SV → Prop) : Prop :=
  match Nat.ble (off + n) xs.length with
  | true => k (.agg ((xs.drop off).take n))
  | false => Bad o
def ldOp (P : Program) (o : Oper) (T : TypeId) (x : Operand) (s : St) (K : SV → Prop) : Prop :=
  match tyAgg P T, szOf P T, ev s.fr x with
  | some true, some n, .p i off => match nth s.H i with
    | some (.cells _ xs) => ldMany o xs off n K
    | some (.lit _ _ xs) => ldMany o xs off n K
    | some (.row _ _ _ xs) => ∃ ys, ys.length = n ∧ (∀ j v, ys[j]? = some v → xs[off + j]? = some v) ∧ K (.agg (vs ys))
    | _ => Bad o
  | some true, some n, .v (.pointer (some a)) => litN n fun n => ∃ ys, ys.length = n ∧ Gat s.G a ys ∧ K (.agg (vs ys))
  | some false, _, .p i off => match nth s.H i with
    | some (.cells _ xs) => match nth xs off with
      | some v => K v
      | none => Bad o
    | some (.lit _ _ xs) => match nth xs off with
      | some v => K v
      | none => Bad o
    | some (.row _ _ _ xs) => ∃ v, xs[off]? = some v ∧ K (.v v)
    | _ => Bad o
  | some false, _, .v (.pointer (some a)) => ∃ v, Gcell s.G a = some v ∧ K (.v v)
  | _, _, _ => Bad o

theorem base_blk {x : Value} {b : Nat} (h : base x = some b) : blkOf x = some b := by
  unfold base at h
  split at h <;> simp_all [blkOf]

theorem add_off (b o j : Nat) : (⟨b, o, none⟩ : Addr).add j = ⟨b, o + j, none⟩ := by unfold Addr.add; split <;> simp_all

theorem cell_at {w : World} {b : Nat} {cs : Array Value} {T : TypeId} (h : w.heap[b]? = some (.cells cs T (0, 0))) (j : Nat) : w.cell? ⟨b, j, none⟩ = cs[j]? := by
  simp [World.cell?, h]

/-- The cells behind a pointer into an object. -/
theorem Ag.rowCell (h : Ag E ρ H G w) {i : Nat} {x : Value} {b : Nat} {e : TypeId} {sz n : Nat} {xs : List Value} (hx : ρ[i]? = some x) (hb : base x = some b) (hH : H[i]? = some (.row e sz n xs)) :
    ∀ (j : Nat) v, xs[j]? = some v → w.cell? ⟨b, j, none⟩ = some v := by
  have ho := h.obs i _ x hH hx
  simp only [ObOK] at ho
  intro j v hv
  have hk : x.ownBlock = some b := by
    unfold base at hb
    split at hb <;> simp_all [Value.ownBlock]
    rcases ho.2 with ⟨h1, _⟩ | ⟨g, cap, cur, h1, _⟩ <;> simp at h1
  have := ho.cells hk j v hv
  rwa [add_off, Nat.zero_add] at this
theorem Ag.cellsAt (h : Ag E ρ H G w) {i : Nat} {x : Value} {b : Nat} {T : TypeId} {xs : List SV} (hx : ρ[i]? = some x) (hb : base x = some b) (hH : H[i]? = some (.cells T xs)) :
    ∃ cs, w.heap[b]? = some (.cells cs T (0, 0)) ∧ Rvs ρ xs cs.toList := by
  have ho := h.obs i _ x hH hx
  simp only [ObOK] at ho
  obtain ⟨b', cs, rfl, h1, h2⟩ := ho
  simp [base] at hb; subst hb
  exact ⟨cs, h1, h2⟩
theorem Ag.litAt (h : Ag E ρ H G w) {i : Nat} {x : Value} {b : Nat} {T : TypeId} {n : Nat} {xs : List SV} (hx : ρ[i]? = some x) (hb : base x = some b) (hH : H[i]? = some (.lit T n xs)) :
    ∃ cs, w.heap[b]? = some (.cells cs T (0, 0)) ∧ Rvs ρ xs cs.toList := by
  have ho := h.obs i _ x hH hx
  simp only [ObOK] at ho
  obtain ⟨b', cs, rfl, h1, h2⟩ := ho
  simp [base] at hb; subst hb
  exact ⟨cs, h1, h2⟩

theorem run_load_agg {P : Program} {T : TypeId} {a : Addr} {n : Nat} (ha : tyAgg P T = some true) (hs : szOf P T = some n) (cs : List Value) (hl : cs.length = n)
    (h : ∀ j v, cs[j]? = some v → w.cell? (a.add j) = some v) : (loadVar T a).run P w = .ok (.agg cs.toArray) w := by
  subst hl
  simp [loadVar, run_isAgg' ha, run_sizeOf' hs, run_loadCells_list w a cs h]
theorem run_load_one {P : Program} {T : TypeId} {a : Addr} (ha : tyAgg P T = some false) (v : Value) (h : w.cell? a = some v) : (loadVar T a).run P w = .ok v w := by
  simp [loadVar, run_isAgg' ha, h]

theorem ldMany_ok {o : Oper} {xs : List SV} {off n : Nat} {k : SV → Prop} (h : ldMany o xs off n k) : off + n ≤ xs.length ∧ k (.agg ((xs.drop off).take n)) := by
  unfold ldMany at h
  split at h
  · rename_i hb; exact ⟨Nat.le_of_ble_eq_true hb, h⟩
  · exact h.no.elim

theorem ld_ok {P : Program} {o : Oper} {T : TypeId} {x : Operand} (ho : o.op = .load T x) (s : St) : Qu P E o s (ldOp P o T x s) := by
  intro K a ρ w hS hA hF
  have hx := ev_ok hF x
  have many : ∀ {xs : List SV} {off n i b : Nat} {z : Value} {cs : Array Value} {T' : TypeId}, tyAgg P T = some true → szOf P T = some n → a.eval x = .pointer (some ⟨b, off, none⟩) →
      w.heap[b]? = some (.cells cs T' (0, 0)) → Rvs ρ xs cs.toList → rdOf s o = [i] → ρ[i]? = some z → base z = some b → ldMany o xs off n K →
      ∃ v sv, K sv ∧ Rv ρ sv v ∧ ∀ w', Agr s.G ρ (rdOf s o) w w' → (execOp a.eval o).run P w' = .ok (.value v) w' := by
    intro xs off n i b z cs T' h1 h2 hp hc hr hrd hz hb hl
    obtain ⟨hle, hk⟩ := ldMany_ok hl
    have hlen : cs.toList.length = xs.length := hr.length
    refine ⟨.agg ((cs.toList.drop off).take n).toArray, _, hk, by simp only [Rv]; exact ⟨_, rfl, by simpa using (hr.drop_ off).take_ n⟩, fun w' hw' => ?_⟩
    have hc' : w'.heap[b]? = some (.cells cs T' (0, 0)) := by rw [hw'.2 i (by simp [hrd]) z b hz (base_blk hb)]; exact hc
    have hrun := run_load_agg (w := w') (a := ⟨b, off, none⟩) h1 h2 ((cs.toList.drop off).take n) (by simp at hlen ⊢; omega) (by
      intro j v hj
      rw [add_off, cell_at hc']
      rw [List.getElem?_take] at hj
      split at hj
      · rw [List.getElem?_drop] at hj; simpa using hj
      · simp at hj)
    simp [execOp, ho, Instr.loadAt, Instr.sureAddr, hp, hrun]
  have single : ∀ {v : SV} {y : Value} {ad : Addr}, tyAgg P T = some false → a.eval x = .pointer (some ad) → (∀ w', Agr s.G ρ (rdOf s o) w w' → w'.cell? ad = some y) → Rv ρ v y → K v →
      ∃ v sv, K sv ∧ Rv ρ sv v ∧ ∀ w', Agr s.G ρ (rdOf s o) w w' → (execOp a.eval o).run P w' = .ok (.value v) w' := by
    intro v y ad h1 hp hc hr hk
    exact ⟨y, v, hk, hr, fun w' hw' => by simp [execOp, ho, Instr.loadAt, Instr.sureAddr, hp, run_load_one h1 y (hc w' hw')]⟩
  unfold ldOp at hS
  split at hS
  · rename_i n i off h1 h2 h3
    have hrd : rdOf s o = [i] := by simp [rdOf, ho, h3]
    rw [h3] at hx
    simp only [Rv] at hx
    obtain ⟨z, b, hz, hb, hp⟩ := hx
    simp only [nth_eq] at hS
    split at hS
    · rename_i T' xs hH
      obtain ⟨cs, hc, hr⟩ := hA.cellsAt hz hb hH
      exact many h1 h2 hp hc hr hrd hz hb hS
    · rename_i T' n' xs hH
      obtain ⟨cs, hc, hr⟩ := hA.litAt hz hb hH
      exact many h1 h2 hp hc hr hrd hz hb hS
    · rename_i e sz n' xs hH
      obtain ⟨ys, hl, hy, hk⟩ := hS
      refine ⟨.agg ys.toArray, _, hk, by simp only [Rv]; exact ⟨_, rfl, by simpa using Rvs.of_vs ys⟩, fun w' hw' => ?_⟩
      have hrun := run_load_agg (w := w') (a := ⟨b, off, none⟩) h1 h2 ys hl (by
        intro j v hj
        rw [add_off]
        rw [World.cell?_of_block (hw'.2 i (by simp [hrd]) z b hz (base_blk hb))]
        exact hA.rowCell hz hb hH _ _ (hy j v hj))
      simp [execOp, ho, Instr.loadAt, Instr.sureAddr, hp, hrun]
    · exact hS.no.elim
  · rename_i n ad h1 h2 h3
    rw [h3] at hx
    simp only [Rv] at hx
    rw [litN_eq] at hS
    obtain ⟨ys, hl, hy, hk⟩ := hS
    refine ⟨.agg ys.toArray, _, hk, by simp only [Rv]; exact ⟨_, rfl, by simpa using Rvs.of_vs ys⟩, fun w' hw' => ?_⟩
    have hrun := run_load_agg (w := w') (a := ad) h1 h2 ys hl (fun j v hj => Gcell_agr hA hw' (hy j v hj))
    simp [execOp, ho, Instr.loadAt, Instr.sureAddr, hx, hrun]
  · rename_i i off h1 h3
    have hrd : rdOf s o = [i] := by simp [rdOf, ho, h3]
    rw [h3] at hx
    simp only [Rv] at hx
    obtain ⟨z, b, hz, hb, hp⟩ := hx
    simp only [nth_eq] at hS
    split at hS
    · rename_i T' xs hH
      obtain ⟨cs, hc, hr⟩ := hA.cellsAt hz hb hH
      split at hS
      · rename_i v hv
        obtain ⟨y, hy, hrv⟩ := hr.get hv
        exact single h1 hp (fun w' hw' => by rw [World.cell?_of_block (hw'.2 i (by simp [hrd]) z b hz (base_blk hb)), cell_at hc]; simpa using hy) hrv hS
      · exact hS.no.elim
    · rename_i T' n' xs hH
      obtain ⟨cs, hc, hr⟩ := hA.litAt hz hb hH
      split at hS
      · rename_i v hv
        obtain ⟨y, hy, hrv⟩ := hr.get hv
        exact single h1 hp (fun w' hw' => by rw [World.cell?_of_block (hw'.2 i (by simp [hrd]) z b hz (base_blk hb)), cell_at hc]; simpa using hy) hrv hS
      · exact hS.no.elim
    · rename_i e sz n' xs hH
      obtain ⟨v, hv, hk⟩ := hS
      exact single h1 hp (fun w' hw' => by rw [World.cell?_of_block (hw'.2 i (by simp [hrd]) z b hz (base_blk hb))]; exact hA.rowCell hz hb hH _ _ hv) (by simp [Rv]) hk
    · exact hS.no.elim
  · rename_i ad h1 h3
    rw [h3] at hx
    simp only [Rv] at hx
    obtain ⟨v, hv, hk⟩ := hS
    exact single h1 hx (fun w' hw' => Gcell_agr hA hw' hv) (by simp [Rv]) hk
  · exact hS.no.elim

end
end Go.SX

namespace Go.SX
section
variable {E : Env} {ρ : List Value} {H : List Ob} {G : Gh} {w : World}

theorem grown_setRow (w : World) (g : Nat) (cs : Array Value) : w.grownBy (w.setRow g cs) (some g) :=
  ⟨rfl, rfl, rfl, by simp [World.setRow], fun k _ hk => setRow_other w g k cs (fun e => hk (by rw [e]))⟩

/-! ### stores -/
/-- Cells that are all plain. -/
def pureL : List SV → Option (List Value)
  | [] => some []
  | .v x :: l => match pureL l with
    | some ys => some (x :: ys)
    | none => none
  | _ => none
theorem pureL_ok : ∀ {xs : List SV} {ys zs : List Value}, pureL xs = some ys → Rvs ρ xs zs → zs = ys
  | [], ys, zs, h, hr => by simp [pureL] at h; subst h; simpa [Rvs] using hr
  | .v x :: l, ys, zs, h, hr => by
    simp only [pureL] at h
    split at h <;> simp at h
    rename_i ys' hl
    subst h
    simp only [Rvs, Rv] at hr
    obtain ⟨_, w, rfl, h1, h2⟩ := hr
    rw [h1, pureL_ok hl h2]
  | .p _ _ :: _, _, _, h, _ => by simp [pureL] at h
  | .s _ :: _, _, _, h, _ => by simp [pureL] at h
  | .f _ _ _ :: _, _, _, h, _ => by simp [pureL] at h
  | .agg _ :: _, _, _, h, _ => by simp [pureL] at h
  | .tup _ :: _, _, _, h, _ => by simp [pureL] at h
  | .lit _ :: _, _, _, h, _ => by simp [pureL] at h
  | .dead :: _, _, _, h, _ => by simp [pureL] at h
theorem take_splice {α : Type} (l us : List α) (N off : Nat) (h : off + us.length ≤ N) (hN : N ≤ l.length) :
    (l.take off ++ us ++ l.drop (off + us.length)).take N = (l.take N).take off ++ us ++ (l.take N).drop (off + us.length) := by
  have h1 : (l.take off ++ us).length = off + us.length := by rw [List.length_append, List.length_take]; omega
  rw [List.take_append, h1, List.take_of_length_le (by omega), List.take_take, Nat.min_eq_left (by omega), List.drop_take]
def stInto (o : Oper) (mk : List SV → Ob) (xs ys : List SV) (i off n : Nat) (s : St) (K : SV → St → Prop) : Prop :=
  match Nat.ble (off + n) xs.length with
  | true => forceL (xs.take off ++ ys ++ xs.drop (off + n)) fun zs => s.un fun fr H G => forceSp (H.set i (mk zs)) fun H' => K (.v undef) ⟨fr, H', G⟩
  | false => Bad o
def stOp (P : Program) (o : Oper) (T : TypeId) (x v : Operand) (s : St) (K : SV → St → Prop) : Prop :=
  match szOf P T, ev s.fr x, cellsOf (ev s.fr v) with
  | some n, .p i off, some ys => match Nat.beq ys.length n, allOne ys with
    | true, true => match nth s.H i with
      | some (.cells T' xs) => stInto o (.cells T') xs ys i off n s K
      | some (.lit T' m xs) => stInto o (.lit T' m) xs ys i off n s K
      | some (.row e sz m xs) => match ys with
        | [.v u] => off < xs.length ∧ s.un fun fr H G => forceSp (H.set i (.row e sz m (xs.set off u))) fun H' => K (.v undef) ⟨fr, H', G⟩
        | _ => match pureL ys with
          | some us => off + n ≤ xs.length ∧ s.un fun fr H G => forceSp (H.set i (.row e sz m (xs.take off ++ us ++ xs.drop (off + n)))) fun H' => K (.v undef) ⟨fr, H', G⟩
          | none => Bad o
      | _ => Bad o
    | _, _ => Bad o
  | _, _, _ => Bad o

theorem run_storeAt {P : Program} {T : TypeId} {n b off : Nat} {v : Value} {cs : Array Value} {T' : TypeId} (hs : szOf P T = some n) (hn : v.cells.toList.length = n)
    (hc : w.heap[b]? = some (.cells cs T' (0, 0))) (hl : off + n ≤ cs.size) (h1 : ∀ u ∈ v.cells.toList, u.oneCell' = true) :
    (Instr.storeAt T (.pointer (some ⟨b, off, none⟩)) v).run P w = .ok () (w.setRow b (cs.toList.take off ++ v.cells.toList ++ cs.toList.drop (off + n)).toArray) := by
  have hst := run_storeCells_at P b off T' v.cells.toList 0 cs w hc (by omega) h1
  simp only [Nat.add_zero, hn] at hst
  have hsz : v.cells.size = n := by simpa using hn
  simp [Instr.storeAt, Instr.sureAddr, storeVar, run_sizeOf' hs, hsz, hst]

theorem st_ok {P : Program} {o : Oper} {T : TypeId} {x v : Operand} (ho : o.op = .store T x v) (s : St) : Ok P E o s (stOp P o T x v s) := by
  intro K next Q a ρ w hK hS hA hF
  have hx := ev_ok hF x
  have hv := ev_ok hF v
  unfold stOp at hS
  split at hS
  case h_2 => exact hS.no.elim
  rename_i n i off ys h1 h2 h3
  rw [h2] at hx
  simp only [Rv] at hx
  obtain ⟨z, b, hz, hb, hp⟩ := hx
  have hys := cellsOf_ok hA hv h3
  split at hS
  case h_2 => exact hS.no.elim
  rename_i hlen hone
  have hlen' : ys.length = n := Nat.eq_of_beq_eq_true hlen
  have hn : (a.eval v).cells.toList.length = n := by rw [hys.length, hlen']
  have h1c := allOne_ok hA hys hone
  have into : ∀ {xs : List SV} {cs : Array Value} {T' : TypeId} {mk : List SV → Ob}, w.heap[b]? = some (.cells cs T' (0, 0)) → Rvs ρ xs cs.toList →
      (∀ (w' : World) (zs : List SV) (cs' : Array Value), w'.heap[b]? = some (.cells cs' T' (0, 0)) → Rvs ρ zs cs'.toList → ObOK ρ w' (mk zs) z) →
      stInto o mk xs ys i off n s K → o.wp P a w next Q := by
    intro xs cs T' mk hc hr hmk hst
    unfold stInto at hst
    split at hst
    case h_2 => exact hst.no.elim
    rename_i hle
    rw [forceL_eq, St.un_eq, forceSp_eq] at hst
    have hle' := Nat.le_of_ble_eq_true hle
    have hcs : cs.toList.length = xs.length := hr.length
    have hcs' : cs.size = xs.length := by simpa using hcs
    have hrun := run_storeAt (w := w) (n := n) (off := off) (v := a.eval v) h1 hn hc (by omega) h1c
    have hex : (execOp a.eval o).run P w = .ok .skip (w.setRow b (cs.toList.take off ++ (a.eval v).cells.toList ++ cs.toList.drop (off + n)).toArray) := by
      simp only [execOp, ho, hp, Sem.run_bind, hrun, Result.andThen_ok, Sem.run_pure]
    refine wp_skip' hex ?_
    have htc : tcOf s o = [i] := by simp [tcOf, ho, h2]
    refine hK _ _ hst ρ _ _ (hA.store hz (by rw [base_blk hb]; exact grown_setRow w b _) ?_) hF (by simp [Rv]) (Fp.grown (grown_setRow w b _) fun b' hb' => ⟨i, by simp [htc], z, hz, by rw [base_blk hb]; exact hb'⟩)
    refine hmk _ _ _ (setRow_heap w b cs _ T' (0, 0) hc) ?_
    simpa using ((hr.take_ off).append hys).append (hr.drop_ (off + n))
  simp only [nth_eq] at hS
  split at hS
  · rename_i T' xs hH
    obtain ⟨cs, hc, hr⟩ := hA.cellsAt hz hb hH
    have hob := hA.obs i _ z hH hz
    refine into hc hr (fun w' zs cs' h1' h2' => ?_) hS
    simp only [ObOK] at hob ⊢
    obtain ⟨b', cs0, rfl, _, _⟩ := hob
    simp [base] at hb; subst hb
    exact ⟨b', cs', rfl, h1', h2'⟩
  · rename_i T' m xs hH
    obtain ⟨cs, hc, hr⟩ := hA.litAt hz hb hH
    have hob := hA.obs i _ z hH hz
    refine into hc hr (fun w' zs cs' h1' h2' => ?_) hS
    simp only [ObOK] at hob ⊢
    obtain ⟨b', cs0, rfl, _, _⟩ := hob
    simp [base] at hb; subst hb
    exact ⟨b', cs', rfl, h1', h2'⟩
  · rename_i e sz m xs hH
    split at hS
    case h_2 =>
      split at hS
      case h_2 => exact hS.no.elim
      rename_i us hus
      obtain ⟨hoff, hk⟩ := hS
      rw [St.un_eq, forceSp_eq] at hk
      have hob := hA.obs i _ z hH hz
      simp only [ObOK] at hob
      have hcu : (a.eval v).cells.toList = us := pureL_ok hus hys
      have hul : us.length = n := by rw [← hcu]; exact hn
      rcases hob.2 with ⟨rfl, _⟩ | ⟨g, cap, cur, rfl, hg0, hg, hnc, hcm, hcs, htake⟩
      · simp [base] at hb
      · simp [base] at hb; subst hb
        have hxl := hob.1
        have hle : m * sz ≤ cap * sz := Nat.mul_le_mul_right _ hnc
        have hrun := run_storeAt (w := w) (n := n) (off := off) (v := a.eval v) h1 hn hg (by omega) h1c
        have hex : (execOp a.eval o).run P w = .ok .skip (w.setRow g (cur.toList.take off ++ (a.eval v).cells.toList ++ cur.toList.drop (off + n)).toArray) := by
          simp only [execOp, ho, hp, Sem.run_bind, hrun, Result.andThen_ok, Sem.run_pure]
        refine wp_skip' hex ?_
        have htc : tcOf s o = [i] := by simp [tcOf, ho, h2]
        refine hK _ _ hk ρ _ _ (hA.store hz (by exact grown_setRow w g _) ?_) hF (by simp [Rv]) (Fp.grown (grown_setRow w g _) fun b' hb' => ⟨i, by simp [htc], _, hz, by exact hb'⟩)
        simp only [ObOK]
        have hcl : cur.toList.length = cap * sz := by simpa using hcs
        refine ⟨by simp only [List.length_append, List.length_take, List.length_drop]; omega, .inr ⟨g, cap, _, rfl, hg0, setRow_heap w g cur _ e (0, 0) hg, hnc, hcm, ?_, ?_⟩⟩
        · rw [hcu]; simp only [List.size_toArray, List.length_append, List.length_take, List.length_drop]; omega
        · rw [hcu, ← hul, take_splice cur.toList us (m * sz) off (by omega) (by omega), htake]
    rename_i ys0 u
    obtain ⟨hoff, hk⟩ := hS
    rw [St.un_eq, forceSp_eq] at hk
    have hob := hA.obs i _ z hH hz
    simp only [ObOK] at hob
    have hcu : (a.eval v).cells.toList = [u] := by
      exact (Rvs.vs_ (ρ := ρ) (xs := [u]) (by simpa [vs] using hys))
    have hn1 : n = 1 := by rw [← hlen']; rfl
    rcases hob.2 with ⟨rfl, _⟩ | ⟨g, cap, cur, rfl, hg0, hg, hnc, hcm, hcs, htake⟩
    · simp [base] at hb
    · simp [base] at hb; subst hb
      have hxl := hob.1
      have hle : m * sz ≤ cap * sz := Nat.mul_le_mul_right _ hnc
      have hrun := run_storeAt (w := w) (n := n) (off := off) (v := a.eval v) h1 hn hg (by omega) h1c
      have hex : (execOp a.eval o).run P w = .ok .skip (w.setRow g (cur.toList.take off ++ (a.eval v).cells.toList ++ cur.toList.drop (off + n)).toArray) := by
        simp only [execOp, ho, hp, Sem.run_bind, hrun, Result.andThen_ok, Sem.run_pure]
      refine wp_skip' hex ?_
      have htc : tcOf s o = [i] := by simp [tcOf, ho, h2]
      refine hK _ _ hk ρ _ _ (hA.store hz (by exact grown_setRow w g _) ?_) hF (by simp [Rv]) (Fp.grown (grown_setRow w g _) fun b' hb' => ⟨i, by simp [htc], _, hz, by exact hb'⟩)
      simp only [ObOK]
      refine ⟨by simp [hxl], .inr ⟨g, cap, _, rfl, hg0, setRow_heap w g cur _ e (0, 0) hg, hnc, hcm, ?_, ?_⟩⟩
      · rw [hcu, hn1]; simp; omega
      · rw [hcu, hn1]
        have : cur.toList.take off ++ [u] ++ cur.toList.drop (off + 1) = cur.toList.set off u := by
          rw [List.set_eq_take_append_cons_drop, if_pos (by simp; omega)]; simp
        simp only [this]
        rw [← htake, List.take_set]
  · exact hS.no.elim

/-! ### new objects -/
def zeroOf (P : Program) (t : TypeId) : Option Value :=
  match P.info? t with
  | some i => i.zero
  | none => none
theorem run_zero' {P : Program} {t : TypeId} {z : Value} (h : zeroOf P t = some z) (w : World) : (zeroValue t).run P w = .ok z w := by
  unfold zeroOf at h
  cases hu : P.info? t with
  | none => simp [hu] at h
  | some i => rw [hu] at h; simp at h; simp [zeroValue, typeInfo, hu, h]

def pushOb (s : St) (ob : Ob) (v : Nat → SV) (K : SV → St → Prop) : Prop :=
  s.un fun fr H G => litN H.length fun n => forceSp (H ++ [ob]) fun H' => K (v n) ⟨fr, H', G⟩
def alOp (P : Program) (o : Oper) (T : TypeId) (s : St) (K : SV → St → Prop) : Prop :=
  match zeroOf P T with
  | some z => forceL (vs z.cells.toList) fun zs => pushOb s (.cells T zs) (fun n => .p n 0) K
  | none => Bad o
def bxOp (o : Oper) (T : TypeId) (x : Operand) (s : St) (K : SV → St → Prop) : Prop :=
  match cellsOf (ev s.fr x) with
  | some xs => forceL xs fun zs => pushOb s (.cells T zs) (fun n => .p n 0) K
  | none => Bad o

theorem push_cells (hA : Ag E ρ H G w) {T : TypeId} {xs : List SV} {cs : Array Value} (hr : Rvs ρ xs cs.toList) :
    Ag E (ρ ++ [.pointer (some ⟨w.heap.size, 0, none⟩)]) (H ++ [.cells T xs]) G (w.alloc (.cells cs T)) := by
  refine hA.push (grown_alloc w _) (fun b hb => ?_) ?_
  · simp [blkOf] at hb; subst hb; simp
  · simp only [ObOK]
    exact ⟨_, cs, rfl, heap_alloc_new w _, hr.ext⟩
theorem pushed (hA : Ag E ρ H G w) {x : Value} {b : Nat} (hb : base x = some b) : Rv (ρ ++ [x]) (.p H.length 0) (.pointer (some ⟨b, 0, none⟩)) := by
  simp only [Rv]
  exact ⟨x, b, by rw [← hA.len]; simp, hb, rfl⟩

theorem al_ok {P : Program} {o : Oper} {T : TypeId} (ho : o.op = .alloc T) (s : St) : Ok P E o s (alOp P o T s) := by
  intro K next Q a ρ w hK hS hA hF
  unfold alOp at hS
  split at hS
  case h_2 => exact hS.no.elim
  rename_i z hz
  rw [forceL_eq] at hS
  unfold pushOb at hS
  rw [St.un_eq, litN_eq, forceSp_eq] at hS
  refine wp_value (w' := w.alloc (.cells z.cells T)) (v := .pointer (some ⟨w.heap.size, 0, none⟩)) (by simp [execOp, ho, Instr.alloc, run_zero' hz, newVar, newRow]) ?_
  exact hK _ _ hS _ _ _ (push_cells hA (Rvs.of_vs _)) hF.ext (pushed hA rfl) (Fp.push (grown_alloc w _))
theorem bx_ok {P : Program} {o : Oper} {T : TypeId} {x : Operand} (ho : o.op = .box T x) (s : St) : Ok P E o s (bxOp o T x s) := by
  intro K next Q a ρ w hK hS hA hF
  unfold bxOp at hS
  split at hS
  case h_2 => exact hS.no.elim
  rename_i xs hx
  rw [forceL_eq] at hS
  unfold pushOb at hS
  rw [St.un_eq, litN_eq, forceSp_eq] at hS
  refine wp_value (w' := w.alloc (.cells (a.eval x).cells T)) (v := .pointer (some ⟨w.heap.size, 0, none⟩)) (by simp [execOp, ho, Instr.box, newVar, newRow]) ?_
  exact hK _ _ hS _ _ _ (push_cells hA (cellsOf_ok hA (ev_ok hF x) hx)) hF.ext (pushed hA rfl) (Fp.push (grown_alloc w _))

/-! ### what only computes -/
def fldOf (P : Program) (S : TypeId) (f : Nat) : Option Field :=
  match P.underlying S with
  | some (.struct fs) => nth fs.toList f
  | _ => none
def pos (P : Program) (t : TypeId) : Bool := match szOf P t with | some (_ + 1) => true | _ => false

def intBin (op : BinOp) (k : IntKind) (x y : Int) : Option Value :=
  match op with
  | .add => some (.int k (k.wrap (x + y)))
  | .sub => some (.int k (k.wrap (x - y)))
  | .mul => some (.int k (k.wrap (x * y)))
  | .and => some (.int k (bits .and k x y))
  | .or => some (.int k (bits .or k x y))
  | .xor => some (.int k (bits .xor k x y))
  | .andNot => some (.int k (bits .andNot k x y))
  | .eql => some (.bool (x == y))
  | .neq => some (.bool (x != y))
  | .lss => some (.bool (x < y))
  | .leq => some (.bool (x ≤ y))
  | .gtr => some (.bool (x > y))
  | .geq => some (.bool (x ≥ y))
  | _ => none
def sameKind : IntKind → IntKind → Bool
  | .i8, .i8 | .i16, .i16 | .i32, .i32 | .i64, .i64 | .u8, .u8 | .u16, .u16 | .u32, .u32 | .u64, .u64 => true
  | _, _ => false
theorem sameKind_eq {k k' : IntKind} (h : sameKind k k' = true) : k = k' := by cases k <;> cases k' <;> simp_all [sameKind]

def eqV (P : Program) (t : TypeId) (x y : SV) : Option Bool :=
  match P.underlying t, x, y with
  | some .bool, .v (.bool a), .v (.bool b) => some (a == b)
  | some (.pointer _), .p _ _, .v (.pointer none) => some false
  | some (.pointer _), .v (.pointer a), .v (.pointer none) => some a.isNone
  | some (.slice _), .v (.slice a _ _), .v (.slice none _ _) => some a.isNone
  | some (.func _ _ _), .f (.func _) _ _, .v .nilFunc => some false
  | some (.func _ _ _), .v .nilFunc, .v .nilFunc => some true
  | _, _, _ => none

def isEq : BinOp → Option Bool
  | .eql => some true
  | .neq => some false
  | _ => none

def binV (P : Program) (op : BinOp) (t : TypeId) (x y : SV) : Option SV :=
  match x, y with
  | .v (.int k a), .v (.int k' b) => match sameKind k k', intBin op k a b with
    | true, some v => some (.v v)
    | _, _ => none
  | .v (.string a), .v (.string b) => match op with
    | .eql => some (.v (.bool (a.toList == b.toList)))
    | .neq => some (.v (.bool !(a.toList == b.toList)))
    | _ => none
  | x, y => match isEq op, eqV P t x y with
    | some true, some b => some (.v (.bool b))
    | some false, some b => some (.v (.bool !b))
    | _, _ => none

def convV (P : Program) (src dst : TypeId) (x : SV) : Option SV :=
  match P.underlying src, P.underlying dst, x with
  | some _, some (.int k), .v (.int _ n) => some (.v (.int k (k.wrap n)))
  | some _, some .string, .v (.string s) => some (.v (.string s))
  | _, _, _ => none

def fieldV (P : Program) (S : TypeId) (x : SV) (f : Nat) : Option SV :=
  match fldOf P S f, x with
  | some fd, .agg xs => match tyAgg P fd.type, szOf P fd.type with
    | some true, some n => some (.agg ((xs.drop fd.offset).take n))
    | some false, _ => nth xs fd.offset
    | _, _ => none
  | some fd, .v (.agg ys) => match tyAgg P fd.type, szOf P fd.type with
    | some true, some n => some (.agg (vs ((ys.toList.drop fd.offset).take n)))
    | some false, _ => match nth ys.toList fd.offset with
      | some y => some (.v y)
      | none => none
    | _, _ => none
  | _, _ => none

def lenV (H : List Ob) : SV → Option (Bool × Int)
  | .v (.slice _ n _) => some (false, n)
  | .v (.string s) => some (true, s.size)
  | .s i => match nth H i with
    | some (.row _ _ n _) => some (false, n)
    | some (.lit _ n _) => some (false, n)
    | _ => none
  | _ => none

def noIfc (P : Program) (T : TypeId) : Bool :=
  match P.underlying T with
  | some (.interface _) => false
  | some _ => true
  | none => false
def vals1 : List SV → Option (List Value)
  | [] => some []
  | .v x :: l => match vals1 l with
    | some ys => some (x :: ys)
    | none => none
  | _ => none
theorem vals1_ok {ρ : List Value} : ∀ {xs : List SV} {ys zs : List Value}, vals1 xs = some ys → Rvs ρ xs zs → zs = ys
  | [], ys, zs, h, hr => by simp [vals1] at h; subst h; simpa [Rvs] using hr
  | .v x :: l, ys, zs, h, hr => by
    simp only [vals1] at h
    split at h <;> simp at h
    rename_i ys' hl
    subst h
    simp only [Rvs, Rv] at hr
    obtain ⟨y, yt, rfl, rfl, h2⟩ := hr
    rw [vals1_ok hl h2]
  | .p _ _ :: l, ys, zs, h, hr => by simp [vals1] at h
  | .s _ :: l, ys, zs, h, hr => by simp [vals1] at h
  | .f _ _ _ :: l, ys, zs, h, hr => by simp [vals1] at h
  | .agg _ :: l, ys, zs, h, hr => by simp [vals1] at h
  | .tup _ :: l, ys, zs, h, hr => by simp [vals1] at h
  | .lit _ :: l, ys, zs, h, hr => by simp [vals1] at h
  | .dead :: l, ys, zs, h, hr => by simp [vals1] at h
def puOp (P : Program) (o : Oper) (s : St) : Option SV :=
  match o.op with
  | .move x => some (evr s.fr x)
  | .assign x => some (evr s.fr x)
  | .nilCheck x => match ev s.fr x with
    | .p i k => some (.p i k)
    | .v (.pointer (some a)) => some (.v (.pointer (some a)))
    | .f (.func g) a c => some (.f (.func g) a c)
    | _ => none
  | .fieldAddr S x f => match fldOf P S f, ev s.fr x with
    | some fd, .p i k => match pos P fd.type with
      | true => some (.p i (k + fd.offset))
      | false => none
    | some fd, .v (.pointer (some a)) => match pos P fd.type with
      | true => some (.v (.pointer (some (a.add fd.offset))))
      | false => none
    | _, _ => none
  | .unOp op _ x => match op, ev s.fr x with
    | .not, .v (.bool b) => some (.v (.bool !b))
    | .neg, .v (.int k n) => some (.v (.int k (k.wrap (0 - n))))
    | _, _ => none
  | .convert src dst x => convV P src dst (ev s.fr x)
  | .field S x f => fieldV P S (ev s.fr x) f
  | .extract t ix => match ev s.fr t with
    | .tup xs => nth xs ix
    | .v (.tuple ys) => match nth ys.toList ix with
      | some y => some (.v y)
      | none => none
    | _ => none
  | .makeFunc fn first cap => some (.f fn (evs s.fr first.toList) (evs s.fr cap.toList))
  | .makeInterface T x => match noIfc P T, ev s.fr x with
    | true, .v u => some (.v (.iface T u))
    | true, .agg xs => match vals1 xs with
      | some us => some (.v (.iface T (.agg us.toArray)))
      | none => none
    | _, _ => none
  | .typeAssert x _ T true => match noIfc P T, ev s.fr x with
    | true, .v (.iface t u) => match Nat.beq t T with
      | true => some (.v (.tuple #[u, .bool true]))
      | false => none
    | _, _ => none
  | .binOp op t x y _ => binV P op t (ev s.fr x) (ev s.fr y)
  | .call { callee := .builtin .len, args, argTypes } => match args.toList, argTypes.toList with
    | [x], [t] => match P.underlying t, lenV s.H (ev s.fr x) with
      | some (.slice _), some (false, n) => some (.v (.int .i64 n))
      | some .string, some (true, n) => some (.v (.int .i64 n))
      | _, _ => none
    | _, _ => none
  | _ => none
end
end Go.SX

namespace Go.SX
set_option linter.unusedVariables false
set_option linter.unusedSimpArgs false
section
variable {E : Env} {ρ : List Value} {H : List Ob} {G : Gh} {w : World}

def puOk (P : Program) (E : Env) (o : Oper) (s : St) (sv : SV) : Prop :=
  ∀ (a : Act) (ρ : List Value) (w : World), Ag E ρ s.H s.G w → Rvs ρ s.fr a.tmps.toList → ∃ v, (∀ w, (execOp a.eval o).run P w = .ok (.value v) w) ∧ Rv ρ sv v

theorem run_intBin {P : Program} {op : BinOp} {k : IntKind} {x y : Int} {v : Value} (h : intBin op k x y = some v) (t : TypeId) (w : World) : (binOp op t (.int k x) (.int k y)).run P w = .ok v w := by
  cases op <;> simp [intBin] at h <;> subst h <;> simp [binOp, Op.intArith, Op.intCmp, Op.intBits, bits]

def notNil : Value → Bool
  | .nilIface => false
  | .agg _ => false
  | _ => true
def notNum : Value → Bool
  | .int _ _ => false
  | .float _ _ => false
  | .complex _ _ _ => false
  | .string _ => false
  | _ => true

theorem run_eqGuard_int {P : Program} (op : BinOp) (t : TypeId) (x y : Operand) (a b : Value) (ha : notNil a = true) (w : World) : (eqGuard op t x y a b).run P w = .ok () w := by
  unfold eqGuard
  cases a <;> simp [notNil] at ha <;> cases op <;> simp

theorem run_equalIn {P : Program} {t : TypeId} {x y : SV} {b : Bool} (h : eqV P t x y = some b) {vx vy : Value} (hx : Rv ρ x vx) (hy : Rv ρ y vy) (d : Nat) :
    (Op.equalIn (d + 1) t vx vy).run P w = .ok b w ∧ notNil vx = true ∧ notNum vx = true := by
  unfold eqV at h
  split at h <;> simp only [Option.some.injEq, reduceCtorEq] at h <;> try subst h
  all_goals (rename_i hu; simp only [Rv] at hx hy)
  · subst hx hy; simp [Op.equalIn, run_underlying hu, notNil, notNum]
  · obtain ⟨x', b', h1, h2, rfl⟩ := hx; subst hy; simp [Op.equalIn, run_underlying hu, notNil, notNum]
  · subst hx hy
    rename_i a
    cases a <;> simp [Op.equalIn, run_underlying hu, notNil, notNum]
  · subst hx hy
    rename_i a _ _ _ _
    cases a <;> simp [Op.equalIn, run_underlying hu, notNil, notNum]
  · obtain ⟨a', c', rfl, _, _⟩ := hx; subst hy; simp [Op.equalIn, run_underlying hu, notNil, notNum]
  · subst hx hy; simp [Op.equalIn, run_underlying hu, notNil, notNum]

theorem run_eqV {P : Program} {t : TypeId} {x y : SV} {b : Bool} (h : eqV P t x y = some b) {vx vy : Value} (hx : Rv ρ x vx) (hy : Rv ρ y vy) :
    (Op.equal t vx vy).run P w = .ok b w ∧ notNil vx = true ∧ notNum vx = true :=
  run_equalIn h hx hy 9999

theorem binOp_eql {P : Program} {t : TypeId} {vx vy : Value} {b : Bool} (hn : notNum vx = true) (h : (Op.equal t vx vy).run P w = .ok b w) :
    (binOp .eql t vx vy).run P w = .ok (.bool b) w ∧ (binOp .neq t vx vy).run P w = .ok (.bool !b) w := by
  have e1 : binOp .eql t vx vy = (do pure (.bool (← Op.equal t vx vy)) : Sem Value) := by unfold binOp; cases vx <;> simp [notNum] at hn <;> rfl
  have e2 : binOp .neq t vx vy = (do pure (.bool (!(← Op.equal t vx vy))) : Sem Value) := by unfold binOp; cases vx <;> simp [notNum] at hn <;> rfl
  rw [e1, e2]
  constructor
  · rw [Sem.run_bind, h]; rfl
  · rw [Sem.run_bind, h]; rfl

theorem run_binV {P : Program} {op : BinOp} {t : TypeId} {x y : SV} {sv : SV} (h : binV P op t x y = some sv) {vx vy : Value} (hx : Rv ρ x vx) (hy : Rv ρ y vy) (ox oy : Operand) :
    ∃ v, (∀ w, (do eqGuard op t ox oy vx vy; binOp op t vx vy : Sem Value).run P w = .ok v w) ∧ Rv ρ sv v := by
  unfold binV at h
  split at h
  · split at h <;> simp at h
    subst h
    rename_i hk hi
    simp only [Rv] at hx hy
    subst hx hy
    have := sameKind_eq hk
    subst this
    refine ⟨_, fun w => ?_, by simp [Rv]; rfl⟩
    simp [run_eqGuard_int op t ox oy (.int _ _) _ rfl, run_intBin hi]
  · simp only [Rv] at hx hy
    subst hx hy
    split at h <;> simp at h <;> subst h
    · refine ⟨_, fun w => ?_, by simp [Rv]; rfl⟩
      simp [run_eqGuard_int .eql t ox oy (.string _) _ rfl, binOp, Op.stringOp]
    · refine ⟨_, fun w => ?_, by simp [Rv]; rfl⟩
      simp [run_eqGuard_int .neq t ox oy (.string _) _ rfl, binOp, Op.stringOp]
  · split at h <;> simp at h
    · rename_i b ho he
      subst h
      cases op <;> simp [isEq] at ho
      exact ⟨.bool b, fun w => by
        obtain ⟨h1, h2, h3⟩ := run_eqV (w := w) he hx hy
        rw [Sem.run_bind, run_eqGuard_int .eql t ox oy vx vy h2]; exact (binOp_eql h3 h1).1, by simp [Rv]⟩
    · rename_i b ho he
      subst h
      cases op <;> simp [isEq] at ho
      exact ⟨.bool !b, fun w => by
        obtain ⟨h1, h2, h3⟩ := run_eqV (w := w) he hx hy
        rw [Sem.run_bind, run_eqGuard_int .neq t ox oy vx vy h2]; exact (binOp_eql h3 h1).2, by simp [Rv]⟩

theorem run_convV {P : Program} {src dst : TypeId} {x : SV} {sv : SV} (h : convV P src dst x = some sv) {vx : Value} (hx : Rv ρ x vx) :
    ∃ v, (∀ w, (convert src dst vx).run P w = .ok v w) ∧ Rv ρ sv v := by
  unfold convV at h
  split at h <;> simp at h <;> subst h
  all_goals (rename_i hs hd; simp only [Rv] at hx; subst hx; refine ⟨_, fun w => ?_, by simp [Rv]; rfl⟩; simp [convert, run_underlying hs, run_underlying hd, Conv.intToInt])

theorem fldOf_run {P : Program} {S : TypeId} {f : Nat} {fd : Field} (h : fldOf P S f = some fd) : ∃ fs : Array Field, P.underlying S = some (.struct fs) ∧ fs[f]? = some fd := by
  unfold fldOf at h
  split at h
  · rename_i fs hu; exact ⟨fs, hu, by simpa [nth_eq] using h⟩
  · simp at h

theorem run_part {P : Program} {t : TypeId} (cs : Array Value) (off : Nat) (w : World) :
    (tyAgg P t = some true → ∀ n, szOf P t = some n → (part t cs off).run P w = .ok (.agg (cs.extract off (off + n))) w) ∧
    (tyAgg P t = some false → ∀ v, cs[off]? = some v → (part t cs off).run P w = .ok v w) := by
  refine ⟨fun h n hn => ?_, fun h v hv => ?_⟩
  · simp [part, run_isAgg' h, run_sizeOf' hn]
  · simp [part, run_isAgg' h, hv]

theorem run_fieldV {P : Program} {S : TypeId} {x : SV} {f : Nat} {sv : SV} (h : fieldV P S x f = some sv) {vx : Value} (hx : Rv ρ x vx) :
    ∃ v, (∀ w, (Instr.field S vx f).run P w = .ok v w) ∧ Rv ρ sv v := by
  unfold fieldV at h
  split at h
  · rename_i fd xs hf
    obtain ⟨fs, hu, hfd⟩ := fldOf_run hf
    simp only [Rv] at hx
    obtain ⟨ys, rfl, hr⟩ := hx
    split at h
    · rename_i n h1 h2
      simp at h; subst h
      refine ⟨.agg (ys.extract fd.offset (fd.offset + n)), fun w => by simp [Instr.field, run_underlying hu, hfd, asAgg, (run_part ys fd.offset w).1 h1 n h2], ?_⟩
      simp only [Rv]
      refine ⟨_, rfl, ?_⟩
      have := (hr.drop_ fd.offset).take_ n
      simpa [Array.toList_extract, List.extract_eq_take_drop] using this
    · rename_i h1
      simp only [nth_eq] at h
      obtain ⟨y, hy, hv⟩ := hr.get h
      refine ⟨y, fun w => by simp [Instr.field, run_underlying hu, hfd, asAgg, (run_part ys fd.offset w).2 h1 y (by simpa using hy)], hv⟩
    · simp at h
  · rename_i fd ys hf
    obtain ⟨fs, hu, hfd⟩ := fldOf_run hf
    simp only [Rv] at hx
    subst hx
    split at h
    · rename_i n h1 h2
      simp at h; subst h
      refine ⟨.agg (ys.extract fd.offset (fd.offset + n)), fun w => by simp [Instr.field, run_underlying hu, hfd, asAgg, (run_part ys fd.offset w).1 h1 n h2], ?_⟩
      simp only [Rv]
      refine ⟨_, rfl, ?_⟩
      have := Rvs.of_vs (ρ := ρ) ((ys.toList.drop fd.offset).take n)
      simpa [Array.toList_extract, List.extract_eq_take_drop] using this
    · rename_i h1
      simp only [nth_eq] at h
      split at h
      · rename_i y hy
        simp at h; subst h
        refine ⟨y, fun w => by simp [Instr.field, run_underlying hu, hfd, asAgg, (run_part ys fd.offset w).2 h1 y (by simpa using hy)], by simp [Rv]⟩
      · simp at h
    · simp at h
  · simp at h

theorem pos_size {P : Program} {t : TypeId} (h : pos P t = true) : ∃ n, szOf P t = some (n + 1) := by
  unfold pos at h
  split at h
  · rename_i n hn; exact ⟨n, hn⟩
  · simp at h

theorem lenV_ok (hA : Ag E ρ H G w) {x : SV} {q : Bool} {n : Int} {v : Value} (h : lenV H x = some (q, n)) (hx : Rv ρ x v) :
    (q = false ∧ ∃ a m c, v = .slice a m c ∧ n = m) ∨ (q = true ∧ ∃ b, v = .string b ∧ n = b.size) := by
  unfold lenV at h
  split at h
  · simp at h; simp only [Rv] at hx; subst hx; exact .inl ⟨h.1, _, _, _, rfl, h.2.symm⟩
  · simp at h; simp only [Rv] at hx; subst hx; exact .inr ⟨h.1, _, rfl, h.2.symm⟩
  · simp only [Rv] at hx
    simp only [nth_eq] at h
    split at h
    · rename_i hH
      simp at h
      have := hA.obs _ _ v hH hx
      simp only [ObOK] at this
      rcases this.2 with ⟨rfl, h0⟩ | ⟨g, cap, cur, rfl, _⟩
      · exact .inl ⟨h.1, _, _, _, rfl, by omega⟩
      · exact .inl ⟨h.1, _, _, _, rfl, h.2.symm⟩
    · rename_i hH
      simp at h
      have := hA.obs _ _ v hH hx
      simp only [ObOK] at this
      obtain ⟨b, cs, rfl, _⟩ := this
      exact .inl ⟨h.1, _, _, _, rfl, h.2.symm⟩
    · simp at h
  · simp at h

theorem pu_ok' {P : Program} {o : Oper} {s : St} {sv : SV} (h : puOp P o s = some sv) : puOk P E o s sv := by
  intro a ρ w hA hF
  unfold puOp at h
  split at h
  · rename_i x ho; simp at h; subst h; exact ⟨_, fun w => by simp [execOp, ho], evr_ok hF x⟩
  · rename_i x ho; simp at h; subst h; exact ⟨_, fun w => by simp [execOp, ho], evr_ok hF x⟩
  · rename_i x ho
    have hx := ev_ok hF x
    split at h <;> simp at h <;> subst h <;> rename_i he <;> rw [he] at hx
    · have hx' := hx
      simp only [Rv] at hx'
      obtain ⟨z, b, _, _, hv⟩ := hx'
      exact ⟨a.eval x, fun w => by simp [execOp, ho, hv], hx⟩
    · have hx' := hx
      simp only [Rv] at hx'
      exact ⟨a.eval x, fun w => by simp [execOp, ho, hx'], hx⟩
    · have hx' := hx
      simp only [Rv] at hx'
      obtain ⟨a', c', hv, _⟩ := hx'
      exact ⟨a.eval x, fun w => by simp [execOp, ho, hv], hx⟩
  · rename_i S x f ho
    have hx := ev_ok hF x
    split at h
    · rename_i fd i k hf he
      rw [he] at hx
      simp only [Rv] at hx
      obtain ⟨z, b, hz, hb, hv⟩ := hx
      split at h <;> simp at h
      rename_i hp
      subst h
      obtain ⟨fs, hu, hfd⟩ := fldOf_run hf
      obtain ⟨n, hn⟩ := pos_size hp
      refine ⟨.pointer (some ⟨b, k + fd.offset, none⟩), fun w => ?_, by simp only [Rv]; exact ⟨z, b, hz, hb, rfl⟩⟩
      simp [execOp, ho, hv, Instr.fieldAt, run_underlying hu, hfd, Instr.sureAddr, fieldPlace, run_sizeOf' hn, add_off]
    · rename_i fd ad hf he
      rw [he] at hx
      simp only [Rv] at hx
      split at h <;> simp at h
      rename_i hp
      subst h
      obtain ⟨fs, hu, hfd⟩ := fldOf_run hf
      obtain ⟨n, hn⟩ := pos_size hp
      refine ⟨.pointer (some (ad.add fd.offset)), fun w => ?_, by simp [Rv]⟩
      simp [execOp, ho, hx, Instr.fieldAt, run_underlying hu, hfd, Instr.sureAddr, fieldPlace, run_sizeOf' hn]
    · simp at h
  · rename_i op t x ho
    have hx := ev_ok hF x
    split at h <;> simp at h <;> subst h <;> rename_i he <;> rw [he] at hx <;> simp only [Rv] at hx
    · rename_i b; exact ⟨.bool !b, fun w => by simp [execOp, ho, hx, Op.unary], by simp [Rv]⟩
    · rename_i k n; exact ⟨.int k (k.wrap (0 - n)), fun w => by simp [execOp, ho, hx, Op.unary, Op.intArith], by simp [Rv]⟩
  · rename_i src dst x ho
    obtain ⟨v, hr, hv⟩ := run_convV h (ev_ok hF x)
    exact ⟨v, fun w => by simp [execOp, ho, hr], hv⟩
  · rename_i S x f ho
    obtain ⟨v, hr, hv⟩ := run_fieldV h (ev_ok hF x)
    exact ⟨v, fun w => by simp [execOp, ho, hr], hv⟩
  · rename_i t ix ho
    have hx := ev_ok hF t
    split at h
    · rename_i xs he
      rw [he] at hx
      simp only [Rv] at hx
      obtain ⟨ys, hv, hr⟩ := hx
      simp only [nth_eq] at h
      obtain ⟨y, hy, hrv⟩ := hr.get h
      exact ⟨y, fun w => by simp [execOp, ho, hv, Instr.extract, show ys[ix]? = some y by simpa using hy], hrv⟩
    · rename_i ys he
      rw [he] at hx
      simp only [Rv] at hx
      simp only [nth_eq] at h
      split at h <;> simp at h
      rename_i y hy
      subst h
      exact ⟨y, fun w => by simp [execOp, ho, hx, Instr.extract, show ys[ix]? = some y by simpa using hy], by simp [Rv]⟩
    · simp at h
  · rename_i fn first cap ho
    simp at h; subst h
    refine ⟨.func fn (first.map a.eval) (cap.map a.eval), fun w => by simp [execOp, ho, Instr.makeFunc], ?_⟩
    simp only [Rv]
    exact ⟨_, _, rfl, by simpa using evs_ok hF first.toList, by simpa using evs_ok hF cap.toList⟩
  · rename_i T x ho
    have hx := ev_ok hF x
    have hrun : noIfc P T = true → ∀ w, (execOp a.eval o).run P w = .ok (.value (.iface T (a.eval x))) w := fun hn w => by
      unfold noIfc at hn
      split at hn <;> try (simp at hn; done)
      rename_i u hno hu
      simp only [execOp, ho, Instr.makeInterface, Sem.run_bind, run_underlying hu, Result.andThen_ok]
      simp
    split at h
    · rename_i u hn he
      simp at h; subst h
      rw [he] at hx
      simp only [Rv] at hx
      exact ⟨_, hrun hn, by simp only [Rv]; rw [hx]⟩
    · rename_i xs hn he
      split at h <;> simp at h
      rename_i us hus
      subst h
      rw [he] at hx
      simp only [Rv] at hx
      obtain ⟨ys, hv, hr⟩ := hx
      refine ⟨_, hrun hn, ?_⟩
      simp only [Rv]
      rw [hv]
      have := vals1_ok hus hr
      rw [← this]
    · simp at h
  · rename_i x xT T ho
    have hx := ev_ok hF x
    split at h
    · rename_i t u hn he
      rw [he] at hx
      simp only [Rv] at hx
      split at h <;> simp at h
      rename_i ht
      have ht := Nat.eq_of_beq_eq_true ht
      subst ht
      subst h
      refine ⟨.tuple #[u, .bool true], fun w => ?_, by simp only [Rv]⟩
      unfold noIfc at hn
      split at hn <;> try (simp at hn; done)
      rename_i ud hno hu
      simp [execOp, ho, hx, Instr.typeAssert, run_underlying hu]
    · simp at h
  · rename_i op t x y ty ho
    obtain ⟨v, hr, hv⟩ := run_binV h (ev_ok hF x) (ev_ok hF y) x y
    exact ⟨v, fun w => by simp only [execOp, ho]; rw [Sem.run_bind, hr]; rfl, hv⟩
  · rename_i args argTypes ho
    split at h
    case h_2 => simp at h
    rename_i x t hargs htys
    have hargs' : args = #[x] := by rw [← Array.toArray_toList (xs := args), hargs]
    have htys' : argTypes = #[t] := by rw [← Array.toArray_toList (xs := argTypes), htys]
    subst hargs' htys'
    split at h
    · rename_i e n hu hl
      simp at h; subst h
      have hx := ev_ok hF x
      rcases lenV_ok hA hl hx with ⟨_, a', m, c, hv, rfl⟩ | ⟨hq, _⟩
      · exact ⟨.int .i64 m, fun w => by simp [execOp, ho, resolve, invoke, builtin, hv, Builtin.len_, run_underlying hu, goInt], by simp [Rv]⟩
      · simp at hq
    · rename_i n hu hl
      simp at h; subst h
      have hx := ev_ok hF x
      rcases lenV_ok hA hl hx with ⟨hq, _⟩ | ⟨_, b, hv, rfl⟩
      · simp at hq
      · exact ⟨.int .i64 b.size, fun w => by simp [execOp, ho, resolve, invoke, builtin, hv, Builtin.len_, run_underlying hu, goInt], by simp [Rv]⟩
    · simp at h
  · simp at h
theorem pu_ok {P : Program} {o : Oper} {s : St} {sv : SV} (h : puOp P o s = some sv) : Qu P E o s fun K => K sv := by
  intro K a ρ w hS hA hF
  obtain ⟨v, hr, hv⟩ := pu_ok' h a ρ w hA hF
  exact ⟨v, sv, hS, hv, fun w' _ => hr w'⟩
end
end Go.SX

namespace Go.SX
set_option linter.unusedVariables false
set_option linter.unusedSimpArgs false
section
variable {E : Env} {ρ : List Value} {H : List Ob} {G : Gh} {w : World}

/-- Two ways. -/
structure br (b : Bool) (A B : Prop) : Prop where
  t : b = true → A
  f : b = false → B
theorem br_ok {b : Bool} {A B : Prop} (h : br b A B) : if b then A else B := by
  cases b
  · exact h.f rfl
  · exact h.t rfl
theorem br_t {A B : Prop} (h : A) : br true A B := ⟨fun _ => h, fun h => Bool.noConfusion h⟩
theorem br_f {A B : Prop} (h : B) : br false A B := ⟨fun h => Bool.noConfusion h, fun _ => h⟩
theorem br_nn {α : Type} {A B : Prop} (h : A) : br (Option.isNone (none : Option α)) A B := show br true A B from br_t h
theorem br_ns {α : Type} {x : α} {A B : Prop} (h : B) : br (Option.isNone (some x)) A B := show br false A B from br_f h
theorem br_d {p : Prop} [Decidable p] {A B : Prop} (h1 : p → A) (h2 : ¬ p → B) : br (decide p) A B := ⟨fun h => h1 (of_decide_eq_true h), fun h => h2 (of_decide_eq_false h)⟩
theorem br_e {x y : Int} {A B : Prop} (h1 : x = y → A) (h2 : x ≠ y → B) : br (x == y) A B := ⟨fun h => h1 (by simpa using h), fun h => h2 (by simpa using h)⟩
theorem br_n {x y : Int} {A B : Prop} (h1 : x = y → B) (h2 : x ≠ y → A) : br (x != y) A B := ⟨fun h => h2 (by simpa using h), fun h => h1 (by simpa using h)⟩
theorem br_not {b : Bool} {A B : Prop} (h : br b B A) : br (!b) A B := ⟨fun hb => h.f (by simpa using hb), fun hb => h.t (by simpa using hb)⟩
/-- The walk has come to a stop. -/
structure Stop (A : Prop) : Prop where
  out : A
theorem stop {A : Prop} (h : Stop A) : A := h.out
/-- A slice that nobody changes: its cells. -/
structure Sl (G : Gh) (A : Option Addr) (n c sz : Nat) (cs : List Value) : Prop where
  len : cs.length = n * sz
  cap : n ≤ c
  top : c ≤ 9223372036854775807
  there : ∀ ad, A = some ad → Gat G ad cs
  nil : A = none → n = 0 ∧ c = 0
  ones : ∀ v ∈ cs, v.oneCell' = true

/-! ### pick -/
def pkOp (o : Oper) (c a b : Operand) (s : St) (K : SV → Prop) : Prop :=
  match evr s.fr c with
  | .lit true => forceSV (evr s.fr a) K
  | .lit false => forceSV (evr s.fr b) K
  | .v (.bool t) => br t (forceSV (evr s.fr a) K) (forceSV (evr s.fr b) K)
  | _ => Bad o
theorem pk_ok {P : Program} {o : Oper} {c x y : Operand} (ho : o.op = .pick c x y) (s : St) : Qu P E o s (pkOp o c x y s) := by
  intro K a ρ w hS hA hF
  have hcv := evr_ok hF c
  have tt : a.eval c = .bool true → K (evr s.fr x) → ∃ v sv, K sv ∧ Rv ρ sv v ∧ ∀ w', Agr s.G ρ (rdOf s o) w w' → (execOp a.eval o).run P w' = .ok (.value v) w' := fun hc hk =>
    ⟨a.eval x, _, hk, evr_ok hF x, fun w' _ => by simp [execOp, ho, hc, asBool]⟩
  have ff : a.eval c = .bool false → K (evr s.fr y) → ∃ v sv, K sv ∧ Rv ρ sv v ∧ ∀ w', Agr s.G ρ (rdOf s o) w w' → (execOp a.eval o).run P w' = .ok (.value v) w' := fun hc hk =>
    ⟨a.eval y, _, hk, evr_ok hF y, fun w' _ => by simp [execOp, ho, hc, asBool]⟩
  unfold pkOp at hS
  split at hS
  · rename_i hc; rw [hc] at hcv; simp only [Rv] at hcv; rw [forceSV_eq] at hS; exact tt hcv hS
  · rename_i hc; rw [hc] at hcv; simp only [Rv] at hcv; rw [forceSV_eq] at hS; exact ff hcv hS
  · rename_i t hc
    rw [hc] at hcv
    simp only [Rv] at hcv
    have hb := br_ok hS
    cases t
    · simp only [Bool.false_eq_true, if_false, forceSV_eq] at hb; exact ff hcv hb
    · simp only [if_true, forceSV_eq] at hb; exact tt hcv hb
  · exact hS.no.elim

/-! ### division, shifts -/
def shrK (k : IntKind) (a : Int) (n : Nat) (K : Int → Prop) : Prop :=
  match k, n with
  | .u64, 1 => K (a / 2)
  | .u64, 7 => K (a / 128)
  | .u64, 8 => K (a / 256)
  | .u64, 16 => K (a / 65536)
  | .u64, 32 => K (a / 4294967296)
  | .i64, 63 => K (a / 9223372036854775808)
  | k, n => K (a / 2 ^ (min n k.bits))
def shlK (k : IntKind) (a : Int) (n : Nat) (K : Int → Prop) : Prop :=
  match k, n with
  | .u64, 1 => K (IntKind.u64.wrap (a * 2))
  | k, n => K (k.wrap (a * 2 ^ (min n k.bits)))
theorem shrK_eq (k : IntKind) (a : Int) (n : Nat) (K : Int → Prop) : shrK k a n K = K (a.fdiv (2 ^ (min n k.bits))) := by
  have h : a.fdiv (2 ^ (min n k.bits)) = a / 2 ^ (min n k.bits) := Int.fdiv_eq_ediv_of_nonneg _ (Int.le_of_lt (Int.pow_pos (by decide)))
  rw [h]
  unfold shrK
  split <;> rfl
theorem shlK_eq (k : IntKind) (a : Int) (n : Nat) (K : Int → Prop) : shlK k a n K = K (k.wrap (a * 2 ^ (min n k.bits))) := by
  unfold shlK
  split <;> rfl
/-- A constant divisor, or shift, that needs no condition. -/
def posC : Operand → Bool
  | .const (.int _ (.ofNat (_ + 1))) => true
  | _ => false
def natC : Operand → Option Nat
  | .const (.int _ (.ofNat n)) => some n
  | _ => none
def dvOp (o : Oper) (op : BinOp) (x y : Operand) (s : St) (K : SV → Prop) : Prop :=
  match ev s.fr x, ev s.fr y with
  | .v (.int k a), .v (.int k' b) => match op with
    | .quo => match sameKind k k', posC y with
      | true, true => K (.v (.int k (k.wrap (a.tdiv b))))
      | true, false => b ≠ 0 ∧ K (.v (.int k (k.wrap (a.tdiv b))))
      | false, _ => Bad o
    | .rem => match sameKind k k', posC y with
      | true, true => K (.v (.int k (a.tmod b)))
      | true, false => b ≠ 0 ∧ K (.v (.int k (a.tmod b)))
      | false, _ => Bad o
    | .shl => match natC y with
      | some n => shlK k a n fun r => K (.v (.int k r))
      | none => 0 ≤ b ∧ K (.v (.int k (k.wrap (a * 2 ^ (min b.toNat k.bits)))))
    | .shr => match natC y with
      | some n => shrK k a n fun r => K (.v (.int k r))
      | none => 0 ≤ b ∧ K (.v (.int k (a.fdiv (2 ^ (min b.toNat k.bits)))))
    | _ => Bad o
  | _, _ => Bad o
theorem posC_ok {y : Operand} {fr : List SV} {k : IntKind} {b : Int} (h : posC y = true) (he : ev fr y = .v (.int k b)) : b ≠ 0 := by
  unfold posC at h
  split at h
  · simp [ev, evr, nrm] at he; rw [← he.2]; simp; omega
  · simp at h
theorem natC_ok {y : Operand} {fr : List SV} {k : IntKind} {b : Int} {n : Nat} (h : natC y = some n) (he : ev fr y = .v (.int k b)) : b = (n : Int) := by
  unfold natC at h
  split at h
  · simp [ev, evr, nrm] at he; simp at h; rw [← he.2, h]
  · simp at h
theorem dv_ok {P : Program} {o : Oper} {op : BinOp} {t t' : TypeId} {x y : Operand} (ho : o.op = .binOp op t x y t') (s : St) : Qu P E o s (dvOp o op x y s) := by
  intro K a ρ w hS hA hF
  have hx := ev_ok hF x
  have hy := ev_ok hF y
  unfold dvOp at hS
  split at hS
  case h_2 => exact hS.no.elim
  rename_i k m k' n h1 h2
  rw [h1] at hx
  rw [h2] at hy
  simp only [Rv] at hx hy
  have fin : ∀ v, (∀ w, (binOp op t (.int k m) (.int k' n)).run P w = .ok v w) → K (.v v) → ∃ v sv, K sv ∧ Rv ρ sv v ∧ ∀ w', Agr s.G ρ (rdOf s o) w w' → (execOp a.eval o).run P w' = .ok (.value v) w' := by
    intro v hr hk
    refine ⟨v, _, hk, by simp [Rv], fun w' _ => ?_⟩
    simp [execOp, ho, hx, hy, run_eqGuard_int op t x y (.int k m) _ rfl, hr]
  have key : ∀ (hn : n ≠ 0) (hs : sameKind k k' = true), (∀ w, (binOp .quo t (.int k m) (.int k' n)).run P w = .ok (.int k (k.wrap (m.tdiv n))) w) ∧ (∀ w, (binOp .rem t (.int k m) (.int k' n)).run P w = .ok (.int k (m.tmod n)) w) := by
    intro hn hs
    have := sameKind_eq hs
    subst this
    exact ⟨fun w => by simp [binOp, Op.intDiv, hn], fun w => by simp [binOp, Op.intDiv, hn]⟩
  split at hS
  · split at hS
    · rename_i hs hp; exact fin _ (key (posC_ok hp h2) hs).1 hS
    · rename_i hs hp; exact fin _ (key hS.1 hs).1 hS.2
    · exact hS.no.elim
  · split at hS
    · rename_i hs hp; exact fin _ (key (posC_ok hp h2) hs).2 hS
    · rename_i hs hp; exact fin _ (key hS.1 hs).2 hS.2
    · exact hS.no.elim
  · split at hS
    · rename_i c hc
      have hn := natC_ok hc h2
      subst hn
      rw [shlK_eq] at hS
      exact fin _ (fun w => by simp [binOp, Op.shift, show ¬ (c : Int) < 0 by omega]) hS
    · exact fin _ (fun w => by simp [binOp, Op.shift, Int.not_lt.2 hS.1]) hS.2
  · split at hS
    · rename_i c hc
      have hn := natC_ok hc h2
      subst hn
      rw [shrK_eq] at hS
      exact fin _ (fun w => by simp [binOp, Op.shift, show ¬ (c : Int) < 0 by omega]) hS
    · exact fin _ (fun w => by simp [binOp, Op.shift, Int.not_lt.2 hS.1]) hS.2
  · exact hS.no.elim

/-! ### slices of slices and of strings -/
def evo (fr : List SV) : Option Operand → Option SV
  | none => none
  | some x => some (ev fr x)
def slHi (o : Oper) (hi : Option SV) (n c : Nat) (k : Nat → Prop) : Prop :=
  match hi with
  | none => k n
  | some (.v (.int _ j)) => (0 ≤ j ∧ j ≤ (c : Int)) ∧ k j.toNat
  | _ => Bad o
def slLo (o : Oper) (lo : Option SV) (h : Nat) (k : Nat → Prop) : Prop :=
  match lo with
  | none => k 0
  | some (.v (.int _ i)) => (0 ≤ i ∧ i ≤ (h : Int)) ∧ k i.toNat
  | _ => Bad o
def slOp (P : Program) (o : Oper) (t : TypeId) (x : Operand) (lo hi mx : Option Operand) (s : St) (K : SV → Prop) : Prop :=
  match mx, ev s.fr x, P.underlying t with
  | none, .v (.slice A n c), some (.slice e) => match szOf P e with
    | some sz => litN sz fun sz => slHi o (evo s.fr hi) n c fun h => slLo o (evo s.fr lo) h fun l =>
      ∀ A', A' = (if c = l then A else A.map (·.add (l * sz))) → K (.v (.slice A' (h - l) (c - l)))
    | none => Bad o
  | none, .v (.string b), some .string => slHi o (evo s.fr hi) b.size b.size fun h => slLo o (evo s.fr lo) h fun l => K (.v (.string (b.extract l h)))
  | _, _, _ => Bad o

theorem sl_run {o : Oper} {fr : List SV} {a : Act} (hF : Rvs ρ fr a.tmps.toList) {P : Program} {isSl : Bool} {lo hi : Option Operand} {n c : Nat} {k : Nat → Nat → Prop}
    (h : slHi o (evo fr hi) n c fun h => slLo o (evo fr lo) h fun l => k h l) :
    ∃ h l, (∀ w, (Instr.sliceBounds isSl n c (lo.map a.eval) (hi.map a.eval) none).run P w = .ok (l, h, c) w) ∧ k h l := by
  have hiC : ∃ h0, (∀ (w : World) (Kk : Nat → Sem (Nat × Nat × Nat)), ((match hi.map a.eval with
      | some v => Instr.sliceBound v c (if isSl then .sliceAcap else .sliceAlen)
      | none => pure n : Sem Nat) >>= Kk).run P w = (Kk h0).run P w) ∧ slLo o (evo fr lo) h0 fun l => k h0 l := by
    cases hi with
    | none => exact ⟨n, fun w Kk => by simp, h⟩
    | some x =>
      simp only [evo, slHi] at h
      have hx := ev_ok hF x
      split at h
      · rename_i he; simp at he
      · rename_i kk j he
        simp at he
        rw [he] at hx
        simp only [Rv] at hx
        exact ⟨j.toNat, fun w Kk => by simp [hx, Instr.sliceBound, asIntOf, h.1], h.2⟩
      · exact h.no.elim
  obtain ⟨h0, hr0, h⟩ := hiC
  cases lo with
  | none =>
    refine ⟨h0, 0, fun w => ?_, by simpa [evo, slLo] using h⟩
    have hr0 := hr0 w
    simp only [Instr.sliceBounds, Option.map_none, Sem.run_bind, Sem.run_pure, Result.andThen_ok] at hr0 ⊢
    cases hhi : hi.map a.eval with
    | none => simp [hhi] at hr0 ⊢; simpa using hr0 (fun h => pure (0, h, c))
    | some v => have := hr0 (fun h => pure (0, h, c)); simp [hhi] at this ⊢; exact this
  | some x =>
    simp only [evo, slLo] at h
    have hx := ev_ok hF x
    split at h
    · rename_i he; simp at he
    · rename_i kk j he
      simp at he
      rw [he] at hx
      simp only [Rv] at hx
      refine ⟨h0, j.toNat, fun w => ?_, h.2⟩
      have hr0 := hr0 w
      simp only [Instr.sliceBounds, Option.map_some, Option.map_none, Sem.run_bind, Sem.run_pure, Result.andThen_ok] at hr0 ⊢
      cases hhi : hi.map a.eval with
      | none => simp [hhi, hx] at hr0 ⊢; have := hr0 (fun h => pure (j.toNat, h, c)); simp at this; simp [this, Instr.sliceBound, asIntOf, h.1]
      | some v => have := hr0 (fun h => do let l ← Instr.sliceBound (.int kk j) h .sliceB; pure (l, h, c)); simp [hhi, hx] at this ⊢; rw [this]; simp [Instr.sliceBound, asIntOf, h.1]
    · exact h.no.elim

theorem sl_ok {P : Program} {o : Oper} {t : TypeId} {x : Operand} {lo hi mx : Option Operand} (ho : o.op = .slice t x lo hi mx) (s : St) : Qu P E o s (slOp P o t x lo hi mx s) := by
  intro K a ρ w hS hA hF
  have hx := ev_ok hF x
  unfold slOp at hS
  split at hS
  · rename_i A n c e h2 h3
    rw [h2] at hx
    simp only [Rv] at hx
    split at hS
    · rename_i sz hsz
      rw [litN_eq] at hS
      obtain ⟨h, l, hr, hk⟩ := sl_run (P := P) (isSl := true) hF hS
      refine ⟨.slice (if c = l then A else A.map (·.add (l * sz))) (h - l) (c - l), _, hk _ rfl, by simp [Rv], fun w' _ => ?_⟩
      simp [execOp, ho, Instr.sliceAt, run_underlying h3, Instr.slice, hx, hr, run_sizeOf' hsz]
    · exact hS.no.elim
  · rename_i b h2 h3
    rw [h2] at hx
    simp only [Rv] at hx
    obtain ⟨h, l, hr, hk⟩ := sl_run (P := P) (isSl := false) hF hS
    refine ⟨.string (b.extract l h), _, hk, by simp [Rv], fun w' _ => ?_⟩
    simp [execOp, ho, Instr.sliceAt, run_underlying h3, Instr.slice, hx, hr]
  · exact hS.no.elim

/-! ### elements -/
def ixOp (P : Program) (o : Oper) (t : TypeId) (x i : Operand) (s : St) (K : SV → Prop) : Prop :=
  match P.underlying t, ev s.fr x, ev s.fr i with
  | some (.slice e), .v (.slice A n c), .v (.int _ j) => match szOf P e with
    | some sz => litN sz fun sz => s.un fun _ _ G => (0 ≤ j ∧ j < (n : Int)) ∧ ∃ cs, Sl G A n c sz cs ∧ ∀ ad, Gat G ad ((cs.drop (j.toNat * sz)).take sz) → (∃ a0, A = some a0 ∧ ad = a0.add (j.toNat * sz)) → K (.v (.pointer (some ad)))
    | none => Bad o
  | some (.slice e), .s id, .v (.int _ j) => match szOf P e, nth s.H id with
    | some sz, some (.row _ _ n _) => litN sz fun sz => (0 ≤ j ∧ j < (n : Int)) ∧ K (.p id (j.toNat * sz))
    | some sz, some (.lit _ n _) => litN sz fun sz => (0 ≤ j ∧ j < (n : Int)) ∧ K (.p id (j.toNat * sz))
    | _, _ => Bad o
  | some (.array len e), .p id off, .v (.int _ j) => match szOf P e with
    | some sz => litN sz fun sz => (0 ≤ j ∧ j < (len : Int)) ∧ K (.p id (off + j.toNat * sz))
    | none => Bad o
  | some (.array len e), .v (.pointer (some a)), .v (.int _ j) => match szOf P e with
    | some sz => litN sz fun sz => (0 ≤ j ∧ j < (len : Int)) ∧ K (.v (.pointer (some (a.add (j.toNat * sz)))))
    | none => Bad o
  | _, _, _ => Bad o

theorem add_add (a : Addr) (m n : Nat) (_h : a.spot = none) : (a.add m).add n = a.add (m + n) := by
  unfold Addr.add
  by_cases hm : m = 0
  · simp [hm]
  · by_cases hn : n = 0
    · simp [hm, hn]
    · simp [hm, hn]; omega

theorem Gat.drop_ {G : Gh} {ad : Addr} {cs : List Value} (h : Gat G ad cs) (k : Nat) (hk : k < cs.length) : Gat G (ad.add k) (cs.drop k) := by
  intro j v hj
  rw [List.getElem?_drop] at hj
  have := h _ v hj
  by_cases hs : ad.spot = none
  · rw [add_add _ _ _ hs]; exact this
  · have h0 := h 0 cs[0] (by rw [List.getElem?_eq_getElem])
    simp [Addr.add, Gcell] at h0
    split at h0 <;> simp_all
theorem Gat.take_ {G : Gh} {ad : Addr} {cs : List Value} (h : Gat G ad cs) (k : Nat) : Gat G ad (cs.take k) := by
  intro j v hj
  rw [List.getElem?_take] at hj
  split at hj
  · exact h j v hj
  · simp at hj

theorem row_base (hA : Ag E ρ H G w) {id : Nat} {x : Value} {e : TypeId} {sz n : Nat} {xs : List Value} (hx : ρ[id]? = some x) (hH : H[id]? = some (.row e sz n xs)) (hn : 0 < n) :
    ∃ b c, x = .slice (some ⟨b, 0, none⟩) n c := by
  have := hA.obs _ _ x hH hx
  simp only [ObOK] at this
  rcases this.2 with ⟨_, h0⟩ | ⟨g, cap, cur, rfl, _⟩
  · omega
  · exact ⟨g, cap, rfl⟩
theorem lit_base (hA : Ag E ρ H G w) {id : Nat} {x : Value} {e : TypeId} {n : Nat} {xs : List SV} (hx : ρ[id]? = some x) (hH : H[id]? = some (.lit e n xs)) :
    ∃ b, x = .slice (some ⟨b, 0, none⟩) n n := by
  have := hA.obs _ _ x hH hx
  simp only [ObOK] at this
  obtain ⟨b, cs, rfl, _⟩ := this
  exact ⟨b, rfl⟩

theorem ix_ok {P : Program} {o : Oper} {t : TypeId} {x i : Operand} (ho : o.op = .indexAddr t x i) (s : St) : Qu P E o s (ixOp P o t x i s) := by
  intro K a ρ w hS hA hF
  have hx := ev_ok hF x
  have hi := ev_ok hF i
  unfold ixOp at hS
  split at hS
  · rename_i e A n c k j h1 h2 h3
    rw [h2] at hx
    rw [h3] at hi
    simp only [Rv] at hx hi
    split at hS
    case h_2 => exact hS.no.elim
    rename_i sz hsz
    rw [litN_eq, St.un_eq] at hS
    obtain ⟨⟨h0, hlt⟩, cs, hsl, hk⟩ := hS
    cases A with
    | none => have := (hsl.nil rfl).1; omega
    | some ad =>
      refine ⟨.pointer (some (ad.add (j.toNat * sz))), _, hk (ad.add (j.toNat * sz)) ?_ ⟨ad, rfl, rfl⟩, by simp [Rv], fun w' _ => ?_⟩
      rotate_left
      · have hb : 0 ≤ j ∧ j < (n : Int) := ⟨h0, hlt⟩
        simp [execOp, ho, Instr.indexAt, hi, asIntOf, run_underlying h1, hx, run_sizeOf' hsz, hb]
      · by_cases hz : sz = 0
        · subst hz; intro q v hq; simp at hq
        · refine ((hsl.there ad rfl).drop_ _ ?_).take_ _
          rw [hsl.len]
          have h1 : j.toNat + 1 ≤ n := by omega
          have := Nat.mul_le_mul_right sz h1
          rw [Nat.add_mul] at this
          omega
  · rename_i e id k j h1 h2 h3
    rw [h2] at hx
    rw [h3] at hi
    simp only [Rv] at hx hi
    have fin : ∀ sz n b c, szOf P e = some sz → a.eval x = .slice (some ⟨b, 0, none⟩) n c → (0 ≤ j ∧ j < (n : Int)) → K (.p id (j.toNat * sz)) → ∃ v sv, K sv ∧ Rv ρ sv v ∧ ∀ w', Agr s.G ρ (rdOf s o) w w' → (execOp a.eval o).run P w' = .ok (.value v) w' := by
      intro sz n b c hsz hv hb hk
      refine ⟨.pointer (some ⟨b, j.toNat * sz, none⟩), _, hk, by simp only [Rv]; exact ⟨_, b, hx, by rw [hv]; rfl, rfl⟩, fun w' _ => ?_⟩
      simp [execOp, ho, Instr.indexAt, hi, asIntOf, run_underlying h1, hv, run_sizeOf' hsz, hb, add_off]
    simp only [nth_eq] at hS
    split at hS
    · rename_i sz e' sz' n xs hsz hH
      rw [litN_eq] at hS
      obtain ⟨b, c, hv⟩ := row_base hA hx hH (by omega)
      exact fin sz n b c hsz hv hS.1 hS.2
    · rename_i sz e' n xs hsz hH
      rw [litN_eq] at hS
      obtain ⟨b, hv⟩ := lit_base hA hx hH
      exact fin sz n b n hsz hv hS.1 hS.2
    · exact hS.no.elim
  · rename_i len e id off k j h1 h2 h3
    rw [h2] at hx
    rw [h3] at hi
    simp only [Rv] at hx hi
    obtain ⟨z, b, hz, hb, hv⟩ := hx
    split at hS
    case h_2 => exact hS.no.elim
    rename_i sz hsz
    rw [litN_eq] at hS
    refine ⟨.pointer (some ⟨b, off + j.toNat * sz, none⟩), _, hS.2, by simp only [Rv]; exact ⟨_, b, hz, hb, rfl⟩, fun w' _ => ?_⟩
    have hbnd := hS.1
    simp [execOp, ho, Instr.indexAt, hi, asIntOf, run_underlying h1, hv, Instr.sureAddr, run_sizeOf' hsz, hbnd, add_off]
  · rename_i len e ad k j h1 h2 h3
    rw [h2] at hx
    rw [h3] at hi
    simp only [Rv] at hx hi
    split at hS
    case h_2 => exact hS.no.elim
    rename_i sz hsz
    rw [litN_eq] at hS
    refine ⟨.pointer (some (ad.add (j.toNat * sz))), _, hS.2, by simp [Rv], fun w' _ => ?_⟩
    have hbnd := hS.1
    simp [execOp, ho, Instr.indexAt, hi, asIntOf, run_underlying h1, hx, Instr.sureAddr, run_sizeOf' hsz, hbnd]
  · exact hS.no.elim

def isOp (P : Program) (o : Oper) (t : TypeId) (x i : Operand) (s : St) (K : SV → Prop) : Prop :=
  match P.underlying t, ev s.fr x, ev s.fr i with
  | some .string, .v (.string b), .v (.int _ j) => 0 ≤ j ∧ ∃ u, b[j.toNat]? = some u ∧ K (.v (.int .u8 u.toNat))
  | some (.array len e), .agg xs, .v (.int _ j) => match tyAgg P e, szOf P e with
    | some false, some sz => litN sz fun sz => match Nat.beq sz 1 with
      | true => (0 ≤ j ∧ j < (len : Int)) ∧ (match nth xs j.toNat with
        | some v => K v
        | none => Bad o)
      | false => Bad o
    | _, _ => Bad o
  | _, _, _ => Bad o
theorem is_ok {P : Program} {o : Oper} {t : TypeId} {x i : Operand} (ho : o.op = .index t x i) (s : St) : Qu P E o s (isOp P o t x i s) := by
  intro K a ρ w hS hA hF
  have hx := ev_ok hF x
  have hi := ev_ok hF i
  unfold isOp at hS
  split at hS
  case h_3 => exact hS.no.elim
  case h_2 =>
    rename_i len e xs k j h1 h2 h3
    rw [h2] at hx
    rw [h3] at hi
    simp only [Rv] at hx hi
    obtain ⟨ys, hv, hr⟩ := hx
    split at hS
    case h_2 => exact hS.no.elim
    rename_i sz hag hsz
    rw [litN_eq] at hS
    split at hS
    case h_2 => exact hS.no.elim
    rename_i hsz1
    have hs1 := Nat.eq_of_beq_eq_true hsz1
    subst hs1
    obtain ⟨hb, hS⟩ := hS
    simp only [nth_eq] at hS
    split at hS
    case h_2 => exact hS.no.elim
    rename_i v hv'
    obtain ⟨y, hy, hry⟩ := hr.get hv'
    refine ⟨y, _, hS, hry, fun w' _ => ?_⟩
    have hp := (run_part (P := P) ys j.toNat w').2 hag y (by simpa using hy)
    simp [execOp, ho, Instr.index, hi, asIntOf, run_underlying h1, hv, hb, run_sizeOf' hsz, hp]
  rename_i b k j h1 h2 h3
  rw [h2] at hx
  rw [h3] at hi
  simp only [Rv] at hx hi
  obtain ⟨h0, u, hu, hk⟩ := hS
  refine ⟨.int .u8 u.toNat, _, hk, by simp [Rv], fun w' _ => ?_⟩
  simp [execOp, ho, Instr.index, hi, asIntOf, run_underlying h1, hx, h0, hu]
end
end Go.SX

namespace Go.SX
set_option linter.unusedVariables false
set_option linter.unusedSimpArgs false

def forceOb : Ob → (Ob → Prop) → Prop
  | .cells T xs, k => forceL xs fun xs' => k (.cells T xs')
  | .row e sz n xs, k => k (.row e sz n xs)
  | .lit T n xs, k => forceL xs fun xs' => k (.lit T n xs')
  | .gone, k => k .gone
theorem forceOb_eq (ob : Ob) (k : Ob → Prop) : forceOb ob k = k ob := by cases ob <;> simp [forceOb, forceL_eq]
def forceObs : List Ob → (List Ob → Prop) → Prop
  | [], k => k []
  | x :: xs, k => forceOb x fun x' => forceObs xs fun xs' => k (x' :: xs')
theorem forceObs_eq : ∀ (l : List Ob) (k : List Ob → Prop), forceObs l k = k l
  | [], _ => rfl
  | x :: xs, k => by simp [forceObs, forceOb_eq, forceObs_eq xs]

/-! ### objects that are done -/
mutual
def SV.fz (i : Nat) (x : Value) : SV → SV
  | .v y => .v y
  | .p j o => match Nat.beq j i with
    | true => .dead
    | false => .p j o
  | .s j => match Nat.beq j i with
    | true => .v x
    | false => .s j
  | .f fn a c => .f fn (fzs i x a) (fzs i x c)
  | .agg xs => .agg (fzs i x xs)
  | .tup xs => .tup (fzs i x xs)
  | .lit b => .lit b
  | .dead => .dead
def fzs (i : Nat) (x : Value) : List SV → List SV
  | [] => []
  | y :: ys => y.fz i x :: fzs i x ys
end
def Ob.fz (i : Nat) (x : Value) : Ob → Ob
  | .cells T xs => .cells T (fzs i x xs)
  | .row e sz n xs => .row e sz n xs
  | .lit T n xs => .lit T n (fzs i x xs)
  | .gone => .gone
section
variable {ρ : List Value} {i : Nat} {x : Value}
theorem beq_ne {j i : Nat} (h : Nat.beq j i = false) : i ≠ j := fun e => by subst e; simp at h
mutual
theorem Rv.fz_ (hx : ρ[i]? = some x) (u : Value) : ∀ {y : SV} {v : Value}, Rv ρ y v → Rv (ρ.set i u) (y.fz i x) v
  | .v _, _, h => by simpa [Rv, SV.fz] using h
  | .p j off, _, h => by
    simp only [SV.fz]
    split
    · simp [Rv]
    · rename_i hne
      simp only [Rv] at h ⊢
      obtain ⟨x', b, hb, hx', rfl⟩ := h
      exact ⟨x', b, by rw [List.getElem?_set_ne (beq_ne hne)]; exact hb, hx', rfl⟩
  | .s j, _, h => by
    simp only [SV.fz]
    split
    · rename_i he
      have := Nat.eq_of_beq_eq_true he
      subst this
      simp only [Rv] at h ⊢
      rw [hx] at h; simpa using h.symm
    · rename_i hne
      simp only [Rv] at h ⊢
      rw [List.getElem?_set_ne (beq_ne hne)]; exact h
  | .f fn a c, _, h => by
    simp only [Rv, SV.fz] at h ⊢
    obtain ⟨a', c', rfl, h1, h2⟩ := h
    exact ⟨a', c', rfl, Rvs.fz_ hx u h1, Rvs.fz_ hx u h2⟩
  | .agg xs, _, h => by
    simp only [Rv, SV.fz] at h ⊢
    obtain ⟨ys, rfl, h1⟩ := h
    exact ⟨ys, rfl, Rvs.fz_ hx u h1⟩
  | .tup xs, _, h => by
    simp only [Rv, SV.fz] at h ⊢
    obtain ⟨ys, rfl, h1⟩ := h
    exact ⟨ys, rfl, Rvs.fz_ hx u h1⟩
  | .lit _, _, h => by simpa [Rv, SV.fz] using h
  | .dead, _, _ => by simp [Rv, SV.fz]
theorem Rvs.fz_ (hx : ρ[i]? = some x) (u : Value) : ∀ {ys : List SV} {vs : List Value}, Rvs ρ ys vs → Rvs (ρ.set i u) (fzs i x ys) vs
  | [], _, h => by simpa [Rvs, fzs] using h
  | y :: ys, _, h => by
    simp only [Rvs, fzs] at h ⊢
    obtain ⟨v, vt, rfl, h1, h2⟩ := h
    exact ⟨v, vt, rfl, Rv.fz_ hx u h1, Rvs.fz_ hx u h2⟩
end
theorem ObOK.fz_ {w : World} (hx : ρ[i]? = some x) (u : Value) {ob : Ob} {y : Value} (h : ObOK ρ w ob y) : ObOK (ρ.set i u) w (ob.fz i x) y := by
  cases ob with
  | cells T xs => simp only [ObOK, Ob.fz] at h ⊢; obtain ⟨b, cs, rfl, h1, h2⟩ := h; exact ⟨b, cs, rfl, h1, Rvs.fz_ hx u h2⟩
  | row e sz n xs => exact h
  | lit T n xs => simp only [ObOK, Ob.fz] at h ⊢; obtain ⟨b, cs, rfl, h1, h2⟩ := h; exact ⟨b, cs, rfl, h1, Rvs.fz_ hx u h2⟩
  | gone => exact h
end

section
variable {E : Env} {ρ : List Value} {H : List Ob} {G : Gh} {w : World}

def Ghe (G G' : Gh) : Prop := ∀ b o, G b = some o → G' b = some o

def fzG (w : World) (x : Value) (G : Gh) : Gh := fun b => if blkOf x = some b then w.heap[b]? else G b
theorem Ag.done3 (h : Ag E ρ H G w) {i e sz n : Nat} {xs : List Value} (hH : H[i]? = some (.row e sz n xs)) (h1 : ∀ v ∈ xs, v.oneCell' = true) :
    ∃ A c, ρ[i]? = some (.slice A n c) ∧ Ghe G (fzG w (.slice A n c) G) ∧ Sl (fzG w (.slice A n c) G) A n c sz xs ∧ Ag E (ρ.set i .nilFunc) ((H.map (·.fz i (.slice A n c))).set i .gone) (fzG w (.slice A n c) G) w := by
  have hi : i < ρ.length := by rw [h.len]; exact (List.getElem?_eq_some_iff.1 hH).1
  have hρ := List.getElem?_eq_getElem hi
  have hob := h.obs i _ _ hH hρ
  simp only [ObOK] at hob
  have hsl : ∃ A c, ρ[i] = .slice A n c := by
    rcases hob.2 with ⟨h0, h0'⟩ | ⟨g, cap, cur, h0, _⟩
    · exact ⟨none, 0, by rw [h0, h0']⟩
    · exact ⟨_, _, h0⟩
  obtain ⟨A, c, hv⟩ := hsl
  rw [hv] at hρ hob
  have hfr := h.freeze hρ (fun a e => by cases e)
  refine ⟨A, c, hρ, ?_, ?_, ?_⟩
  rotate_left 2
  · refine ⟨by simp [h.len], ?_, hfr.apart, hfr.own, hfr.ext, hfr.frame, hfr.size, hfr.os, hfr.tape, hfr.output, hfr.old, hfr.gold, hfr.gnew⟩
    intro j ob y hob' hy
    by_cases hj : i = j
    · subst hj
      rw [List.getElem?_set_self hi] at hy
      rw [List.getElem?_set_self (by simpa using (List.getElem?_eq_some_iff.1 hH).1)] at hob'
      simp at hob' hy; subst hob' hy; rfl
    · rw [List.getElem?_set_ne hj] at hy
      rw [List.getElem?_set_ne hj, List.getElem?_map] at hob'
      obtain ⟨ob0, h0, rfl⟩ := Option.map_eq_some_iff.1 hob'
      exact (h.obs j ob0 y h0 hy).fz_ hρ _
  · intro b o hb
    show (if blkOf (.slice A n c) = some b then w.heap[b]? else G b) = some o
    rw [if_neg (fun hxb => by have := (h.own i _ b hρ hxb).2.1; rw [hb] at this; simp at this)]
    exact hb
  · rcases hob.2 with ⟨h0, h0'⟩ | ⟨g, cap, cur, h0, _, hg, hnc, hcm, hcs, htake⟩
    · simp at h0
      obtain ⟨rfl, rfl, rfl⟩ := h0
      exact ⟨hob.1, Nat.le_refl _, by omega, fun ad he => by simp at he, fun _ => ⟨rfl, rfl⟩, h1⟩
    · simp at h0
      obtain ⟨rfl, rfl⟩ := h0
      refine ⟨hob.1, hnc, by simpa [maxLen] using hcm, fun ad he => ?_, fun he => by simp at he, h1⟩
      simp at he
      subst he
      intro j v hj
      rw [add_off, Nat.zero_add]
      simp only [Gcell, fzG, blkOf, if_true, hg]
      rw [← htake, List.getElem?_take] at hj
      split at hj
      · simpa using hj
      · simp at hj
theorem Ag.done (h : Ag E ρ H G w) {i e sz n : Nat} {xs : List Value} (hH : H[i]? = some (.row e sz n xs)) (h1 : ∀ v ∈ xs, v.oneCell' = true) :
    ∃ A c G', ρ[i]? = some (.slice A n c) ∧ Ghe G G' ∧ Sl G' A n c sz xs ∧ Ag E (ρ.set i .nilFunc) ((H.map (·.fz i (.slice A n c))).set i .gone) G' w := by
  obtain ⟨A, c, h2, h3, h4, h5⟩ := h.done3 hH h1
  exact ⟨A, c, _, h2, h3, h4, h5⟩
/-- A slice in memory of which nothing was known. -/
def Fresh (G : Gh) (A : Option Addr) : Prop := ∀ ad, A = some ad → G ad.block = none
variable {G' : Gh}
/-- All of a slice's block is known. -/
def Whl (G : Gh) (A : Option Addr) (xs : List Value) : Prop := ∀ ad, A = some ad → ad.spot = none ∧ ad.off = 0 ∧ ∃ (cur : Array Value) (T : TypeId), G ad.block = some (.cells cur T (0, 0)) ∧ cur.toList.take xs.length = xs
theorem Whl.to {A : Option Addr} {xs : List Value} (h : Whl G A xs) (hg : Ghe G G') : Whl G' A xs := fun ad had => by
  obtain ⟨h1, h2, cur, T, h3, h4⟩ := h ad had
  exact ⟨h1, h2, cur, T, hg _ _ h3, h4⟩
theorem Ag.done5 (h : Ag E ρ H G w) {i e sz n : Nat} {xs : List Value} (hH : H[i]? = some (.row e sz n xs)) (h1 : ∀ v ∈ xs, v.oneCell' = true) :
    ∃ A c G', ρ[i]? = some (.slice A n c) ∧ Ghe G G' ∧ Fresh G A ∧ Whl G' A xs ∧ Sl G' A n c sz xs ∧ Ag E (ρ.set i .nilFunc) ((H.map (·.fz i (.slice A n c))).set i .gone) G' w := by
  obtain ⟨A, c, h2, h3, h4, h5⟩ := h.done3 hH h1
  refine ⟨A, c, _, h2, h3, fun ad had => ?_, fun ad had => ?_, h4, h5⟩
  · subst had; exact (h.own i _ ad.block h2 rfl).2.1
  · subst had
    have hob := h.obs i _ _ hH h2
    simp only [ObOK] at hob
    rcases hob.2 with ⟨h0, h0'⟩ | ⟨g, cap, cur, h0, _, hg, hnc, hcm, hcs, htake⟩
    · simp at h0
    · simp at h0
      obtain ⟨rfl, rfl⟩ := h0
      refine ⟨rfl, rfl, cur, _, by simp only [fzG, blkOf, if_true]; exact hg, ?_⟩
      rw [hob.1]; exact htake
/-- What is known of a slice that has just been done. -/
structure Knw (G G' : Gh) (A : Option Addr) (xs : List Value) : Prop where
  fresh : Fresh G A
  whl : Whl G' A xs
/-- Nothing but what T names has changed, seen from the state ahead of the freezing. -/
theorem Fp.frz {ρ ρ'' : List Value} {G G' G'' : Gh} {T T' : List Nat} {w w' : World} {k : Nat} (hk : k ∈ T) (hT : ∀ i ∈ T', i ∈ T) (hg : Ghe G G') (h : Fp (ρ.set k .nilFunc) ρ'' G' G'' T' w w') : Fp ρ ρ'' G G'' T w w' := by
  refine ⟨fun b hb hn => h.blk b hb fun i hi x hx => ?_, fun i x hi hx => h.ids i x (fun hh => hi (hT i hh)) ?_, fun b o ho => h.gh b o (hg b o ho)⟩
  · by_cases hik : k = i
    · subst hik
      by_cases hl : k < ρ.length
      · rw [List.getElem?_set_self hl] at hx; simp at hx; subst hx; simp [blkOf]
      · rw [List.getElem?_eq_none (by simp; omega)] at hx; simp at hx
    · rw [List.getElem?_set_ne hik] at hx
      exact hn i (hT i hi) x hx
  · rw [List.getElem?_set_ne (fun e => hi (by rw [← e]; exact hk))]; exact hx
def obfz (i : Nat) (x : Value) : List Ob → List Ob
  | [] => []
  | ob :: l => ob.fz i x :: obfz i x l
theorem obfz_eq (i : Nat) (x : Value) : ∀ l, obfz i x l = l.map (·.fz i x)
  | [] => rfl
  | ob :: l => by simp [obfz, obfz_eq i x l]
end
end Go.SX

namespace Go.SX
set_option linter.unusedVariables false
set_option linter.unusedSimpArgs false
section
variable {E : Env} {ρ : List Value} {H : List Ob} {G : Gh} {w : World}

def fillS (place : Nat → Option (Nat × Nat)) (xs : List SV) : List (Nat × SV) → Option (List SV)
  | [] => some xs
  | (i, v) :: rest => match place i, cellsOf v with
    | some (off, size), some ys => match Nat.beq ys.length size, Nat.ble (off + ys.length) xs.length with
      | true, true => fillS place (xs.take off ++ ys ++ xs.drop (off + ys.length)) rest
      | _, _ => none
    | _, _ => none
def evps (fr : List SV) : List (Nat × Operand) → List (Nat × SV)
  | [] => []
  | (i, x) :: l => (i, ev fr x) :: evps fr l

theorem splice_eq (off : Nat) : ∀ (l : List Value) (k : Nat) (cs : Array Value), off + k + l.length ≤ cs.size →
    ((l.zipIdx k).foldl (fun cs (x : Value × Nat) => cs.setIfInBounds (off + x.2) x.1) cs).toList = cs.toList.take (off + k) ++ l ++ cs.toList.drop (off + k + l.length)
  | [], k, cs, _ => by simp
  | v :: l, k, cs, h => by
    simp only [List.zipIdx_cons, List.foldl_cons]
    rw [splice_eq off l (k + 1) _ (by simp at h ⊢; omega)]
    have hlt : off + k < cs.size := by simp at h; omega
    simp only [Array.toList_setIfInBounds]
    rw [List.take_set, List.drop_set_of_lt (by omega)]
    have h1 : (cs.toList.take (off + (k + 1))).set (off + k) v = cs.toList.take (off + k) ++ [v] := by
      rw [show off + (k + 1) = (off + k) + 1 by omega, List.take_succ_eq_append_getElem (by simpa using hlt)]
      rw [List.set_append_right _ _ (by simp; omega)]
      have : off + k - (cs.toList.take (off + k)).length = 0 := by simp; omega
      rw [this]; rfl
    rw [h1]
    simp only [List.append_assoc, List.singleton_append, List.length_cons]
    rw [show off + (k + 1) + l.length = off + k + (l.length + 1) by omega]

theorem fillS_ok (hA : Ag E ρ H G w) {a : Act} {fr : List SV} (hF : Rvs ρ fr a.tmps.toList) (place : Nat → Option (Nat × Nat)) : ∀ (ps : List (Nat × Operand)) (xs : List SV) (cs : Array Value) {zs : List SV},
    Rvs ρ xs cs.toList → fillS place xs (evps fr ps) = some zs → ∃ cs', Instr.fill place cs (ps.map fun p => (p.1, a.eval p.2)) = some cs' ∧ Rvs ρ zs cs'.toList
  | [], xs, cs, zs, hr, h => by
    simp [evps, fillS] at h
    subst h
    exact ⟨cs, rfl, hr⟩
  | (i, x) :: ps, xs, cs, zs, hr, h => by
    simp only [evps, fillS] at h
    split at h
    case h_2 => simp at h
    rename_i off size ys hp hc
    split at h
    case h_2 => simp at h
    rename_i h1 h2
    have h1' := Nat.eq_of_beq_eq_true h1
    have h2' := Nat.le_of_ble_eq_true h2
    have hys := cellsOf_ok hA (ev_ok hF x) hc
    have hsz : (a.eval x).cells.size = size := by have := hys.length; simp at this; omega
    have hxs : cs.size = xs.length := by simpa using hr.length
    have hyl : (a.eval x).cells.size = ys.length := by simpa using hys.length
    have hsp := splice_eq off (a.eval x).cells.toList 0 cs (by simp; omega)
    simp only [Nat.add_zero, Array.length_toList] at hsp
    have hr' : Rvs ρ (xs.take off ++ ys ++ xs.drop (off + ys.length)) (((a.eval x).cells.zipIdx.foldl (fun cs (x : Value × Nat) => cs.setIfInBounds (off + x.2) x.1) cs)).toList := by
      have e : ((a.eval x).cells.zipIdx.foldl (fun cs (x : Value × Nat) => cs.setIfInBounds (off + x.2) x.1) cs) = (((a.eval x).cells.toList.zipIdx 0).foldl (fun cs (x : Value × Nat) => cs.setIfInBounds (off + x.2) x.1) cs) := by
        rw [← Array.foldl_toList, Array.toList_zipIdx]
      rw [e, hsp, hyl]
      exact ((hr.take_ off).append hys).append (hr.drop_ (off + ys.length))
    obtain ⟨cs', hf, hz⟩ := fillS_ok hA hF place ps _ _ hr' h
    refine ⟨cs', ?_, hz⟩
    simp only [List.map_cons, Instr.fill, hp]
    rw [if_neg (by simp; omega)]
    exact hf

/-! ### structs -/
def placesOf (P : Program) : List Field → Option (List (Nat × Nat))
  | [] => some []
  | f :: fs => match szOf P f.type, placesOf P fs with
    | some n, some l => some ((f.offset, n) :: l)
    | _, _ => none
theorem run_places {P : Program} : ∀ (fs : List Field) {l : List (Nat × Nat)}, placesOf P fs = some l → (fs.mapM fun f => do pure (f.offset, ← sizeOf f.type) : Sem (List (Nat × Nat))).run P w = .ok l w
  | [], l, h => by simp [placesOf] at h; subst h; simp
  | f :: fs, l, h => by
    simp only [placesOf] at h
    split at h <;> simp at h
    rename_i n l' h1 h2
    subst h
    have ih := run_places fs h2
    simp only [List.mapM_cons, Sem.run_bind, run_sizeOf' h1, Result.andThen_ok, Sem.run_pure, ih]

def bdOp (P : Program) (o : Oper) (t : TypeId) (parts : Array (Nat × Operand)) (s : St) (K : SV → Prop) : Prop :=
  match zeroOf P t, P.underlying t with
  | some z, some (.struct fs) => match placesOf P fs.toList with
    | some pl => match fillS (fun i => nth pl i) (vs z.cells.toList) (evps s.fr parts.toList) with
      | some zs => forceL zs fun zs' => K (.agg zs')
      | none => Bad o
    | none => Bad o
  | some z, some (.array _ e) => match szOf P e with
    | some n => match fillS (fun i => some (i * n, n)) (vs z.cells.toList) (evps s.fr parts.toList) with
      | some zs => forceL zs fun zs' => K (.agg zs')
      | none => Bad o
    | none => Bad o
  | _, _ => Bad o

theorem bd_ok {P : Program} {o : Oper} {t : TypeId} {parts : Array (Nat × Operand)} (ho : o.op = .build t parts) (s : St) : Qu P E o s (bdOp P o t parts s) := by
  intro K a ρ w hS hA hF
  have hparts : (parts.map fun (i, x) => (i, a.eval x)).toList = parts.toList.map fun p => (p.1, a.eval p.2) := by simp
  unfold bdOp at hS
  split at hS
  · rename_i z fs hz hu
    split at hS
    case h_2 => exact hS.no.elim
    rename_i pl hpl
    split at hS
    case h_2 => exact hS.no.elim
    rename_i zs hf
    rw [forceL_eq] at hS
    obtain ⟨cs', hfill, hr⟩ := fillS_ok hA hF _ parts.toList _ z.cells (Rvs.of_vs _) hf
    refine ⟨.agg cs', _, hS, by simp only [Rv]; exact ⟨_, rfl, hr⟩, fun w' _ => ?_⟩
    have hp := run_places (w := w') (P := P) fs.toList hpl
    have hpm : (fs.mapM fun f => do pure (f.offset, ← sizeOf f.type) : Sem (Array (Nat × Nat))).run P w' = .ok pl.toArray w' := by
      rw [Array.mapM_eq_mapM_toList]
      simp only [Sem.run_map, hp, Result.andThen_ok]
    have hfill' : Instr.fill (fun i => pl.toArray[i]?) z.cells (parts.map fun (i, x) => (i, a.eval x)).toList = some cs' := by
      rw [hparts]
      have : (fun i => pl.toArray[i]?) = fun i => nth pl i := by funext i; simp [nth_eq]
      rw [this]; exact hfill
    simp only [execOp, ho, Instr.build, Sem.run_bind, run_zero' hz, Result.andThen_ok, run_underlying hu, hpm, hfill', Sem.run_pure]
  · rename_i z m e hz hu
    split at hS
    case h_2 => exact hS.no.elim
    rename_i n hn
    split at hS
    case h_2 => exact hS.no.elim
    rename_i zs hf
    rw [forceL_eq] at hS
    obtain ⟨cs', hfill, hr⟩ := fillS_ok hA hF _ parts.toList _ z.cells (Rvs.of_vs _) hf
    refine ⟨.agg cs', _, hS, by simp only [Rv]; exact ⟨_, rfl, hr⟩, fun w' _ => ?_⟩
    rw [← hparts] at hfill
    simp only [execOp, ho, Instr.build, Sem.run_bind, run_zero' hz, Result.andThen_ok, run_underlying hu, run_sizeOf' hn, hfill, Sem.run_pure]
  · exact hS.no.elim

/-! ### slice literals -/
def valsOf : List SV → Option (List Value)
  | [] => some []
  | .v x :: l => match valsOf l with
    | some ys => some (x :: ys)
    | none => none
  | _ => none
theorem valsOf_ok : ∀ {xs : List SV} {ys zs : List Value}, valsOf xs = some ys → Rvs ρ xs zs → zs = ys
  | [], ys, zs, h, hr => by simp [valsOf] at h; subst h; simpa [Rvs] using hr
  | .v x :: l, ys, zs, h, hr => by
    simp only [valsOf] at h
    split at h <;> simp at h
    rename_i ys' hl
    subst h
    simp only [Rvs] at hr
    obtain ⟨y, yt, rfl, h1, h2⟩ := hr
    simp only [Rv] at h1
    rw [h1, valsOf_ok hl h2]
  | .p _ _ :: _, _, _, h, _ => by simp [valsOf] at h
  | .s _ :: _, _, _, h, _ => by simp [valsOf] at h
  | .f _ _ _ :: _, _, _, h, _ => by simp [valsOf] at h
  | .agg _ :: _, _, _, h, _ => by simp [valsOf] at h
  | .tup _ :: _, _, _, h, _ => by simp [valsOf] at h
  | .lit _ :: _, _, _, h, _ => by simp [valsOf] at h
  | .dead :: _, _, _, h, _ => by simp [valsOf] at h

def bsOp (P : Program) (o : Oper) (t : TypeId) (len : Nat) (parts : Array (Nat × Operand)) (s : St) (K : SV → St → Prop) : Prop :=
  match P.underlying t with
  | some (.slice e) => match szOf P e, zeroOf P e, pos P e with
    | some sz, some _, true => match Nat.ble (len * sz) 65535, fillS (fun i => some (i * sz, sz)) (List.replicate (len * sz) .dead) (evps s.fr parts.toList) with
      | true, some zs => match valsOf zs with
        | some ys => forceL (vs ys) fun _ => pushOb s (.row e sz len ys) (fun n => .s n) K
        | none => forceL zs fun zs' => pushOb s (.lit e len zs') (fun n => .s n) K
      | _, _ => Bad o
    | _, _, _ => Bad o
  | _ => Bad o

theorem own_lit' (w : World) (e sz len : Nat) (ys : List Value) (h : ys.length = len * sz) (hm : len ≤ maxLen) :
    (w.alloc (.cells ys.toArray e)).ownsRow 0 e sz (.slice (some ⟨w.heap.size, 0, none⟩) len len) len ys :=
  ⟨h, .inr ⟨w.heap.size, len, ys.toArray, rfl, Nat.zero_le _, heap_alloc_new w _, Nat.le_refl _, hm, by simpa using h, by simp [← h]⟩⟩

theorem bs_ok {P : Program} {o : Oper} {t : TypeId} {len : Nat} {parts : Array (Nat × Operand)} (ho : o.op = .buildSlice t len parts) (s : St) : Ok P E o s (bsOp P o t len parts s) := by
  intro K next Q a ρ w hK hS hA hF
  unfold bsOp at hS
  split at hS
  case h_2 => exact hS.no.elim
  rename_i e hu
  split at hS
  case h_2 => exact hS.no.elim
  rename_i sz z hsz hz hpos
  split at hS
  case h_2 => exact hS.no.elim
  rename_i zs hle hf
  have hle' := Nat.le_of_ble_eq_true hle
  have hparts : (parts.map fun (i, x) => (i, a.eval x)).toList = parts.toList.map fun p => (p.1, a.eval p.2) := by simp
  have key : ∀ (cells0 : Array Value), cells0.size = len * sz → ∃ cs', Instr.fill (fun i => some (i * sz, sz)) cells0 (parts.map fun (i, x) => (i, a.eval x)).toList = some cs' ∧ Rvs ρ zs cs'.toList := by
    intro cells0 hc
    rw [hparts]
    refine fillS_ok hA hF _ parts.toList _ cells0 ?_ hf
    have := Rvs.dead_ (ρ := ρ) cells0.toList
    rwa [Array.length_toList, hc] at this
  obtain ⟨cs', hfill, hr⟩ := key ((Array.range (len * sz)).map ((if len * sz = 0 then #[] else z.cells)[· % (if len * sz = 0 then #[] else z.cells).size]!)) (by simp)
  have hrun : (execOp a.eval o).run P w = .ok (.value (.slice (some ⟨w.heap.size, 0, none⟩) len len)) (w.alloc (.cells cs' e)) := by
    have hbig : ¬ len * sz > 2 ^ 24 := by omega
    by_cases h0 : len * sz = 0
    · simp only [h0, if_true] at hfill
      simp only [execOp, ho, Instr.buildSlice, Sem.run_bind, run_underlying hu, Result.andThen_ok, run_sizeOf' hsz, h0, if_true, Sem.run_pure, Sem.run_ite]
      simp only [show ¬ (0 : Nat) > 2 ^ 24 by omega, if_false, Sem.run_pure, Result.andThen_ok, hfill]
      simp [newRow]
    · simp only [h0, if_false] at hfill
      simp only [execOp, ho, Instr.buildSlice, Sem.run_bind, run_underlying hu, Result.andThen_ok, run_sizeOf' hsz, h0, if_false, hbig, Sem.run_pure, Sem.run_ite, run_zero' hz, hfill]
      simp [newRow]
  have hlen : cs'.toList.length = len * sz := by
    have h1 := hr.length
    have : ∀ (ps : List (Nat × SV)) (xs : List SV) {zs : List SV}, fillS (fun i => some (i * sz, sz)) xs ps = some zs → zs.length = xs.length := by
      intro ps
      induction ps with
      | nil => intro xs zs h; simp [fillS] at h; subst h; rfl
      | cons p ps ih =>
        intro xs zs h
        obtain ⟨i, v⟩ := p
        simp only [fillS] at h
        split at h
        case h_2 => simp at h
        split at h
        case h_2 => simp at h
        rename_i h1 h2
        have := ih _ h
        have h2' := Nat.le_of_ble_eq_true h2
        rw [this]; simp; omega
    rw [h1, this _ _ hf]; simp
  split at hS
  · rename_i ys hv
    rw [forceL_eq] at hS
    unfold pushOb at hS
    rw [St.un_eq, litN_eq, forceSp_eq] at hS
    have hcs := valsOf_ok hv hr
    obtain ⟨k, hk⟩ := pos_size hpos
    rw [hsz] at hk
    simp at hk
    have hmax : len ≤ maxLen := by
      have : len * 1 ≤ len * sz := Nat.mul_le_mul_left _ (by omega)
      simp only [maxLen]; omega
    refine wp_value hrun (hK _ _ hS (ρ ++ [.slice (some ⟨w.heap.size, 0, none⟩) len len]) _ _ ?_ hF.ext ?_ (Fp.push (grown_alloc w _)))
    · refine hA.push (grown_alloc w _) (fun b hb => ?_) ?_
      · simp [blkOf] at hb; subst hb; simp
      · simp only [ObOK]
        have hcs'' : cs' = ys.toArray := by rw [← hcs]
        rw [hcs'']
        exact own_lit' w e sz len ys (by rw [← hcs]; exact hlen) hmax
    · simp only [Rv]; rw [← hA.len]; simp
  · rw [forceL_eq] at hS
    unfold pushOb at hS
    rw [St.un_eq, litN_eq, forceSp_eq] at hS
    refine wp_value hrun (hK _ _ hS (ρ ++ [.slice (some ⟨w.heap.size, 0, none⟩) len len]) _ _ ?_ hF.ext ?_ (Fp.push (grown_alloc w _)))
    · refine hA.push (grown_alloc w _) (fun b hb => ?_) ?_
      · simp [blkOf] at hb; subst hb; simp
      · simp only [ObOK]
        exact ⟨_, cs', rfl, heap_alloc_new w _, hr.ext⟩
    · simp only [Rv]; rw [← hA.len]; simp
end
end Go.SX

namespace Go.SX
set_option linter.unusedVariables false
set_option linter.unusedSimpArgs false
section
variable {E : Env} {ρ : List Value} {H : List Ob} {G : Gh} {w : World}

def infoOf (P : Program) (t : TypeId) : Option (Nat × Nat × Value) :=
  match P.info? t with
  | some i => match i.zero with
    | some z => some (i.size, i.bytes, z)
    | none => none
  | none => none
theorem infoOf_ok {P : Program} {t : TypeId} {sz by_ : Nat} {z : Value} (h : infoOf P t = some (sz, by_, z)) : ∃ i, P.info? t = some i ∧ i.size = sz ∧ i.bytes = by_ ∧ i.zero = some z := by
  unfold infoOf at h
  split at h
  · rename_i i hi
    split at h <;> simp at h
    rename_i z' hz
    obtain ⟨h1, h2, h3⟩ := h
    exact ⟨i, hi, h1, h2, by rw [hz, h3]⟩
  · simp at h

/-- The end of an append: the object has grown. -/
def apEnd (s : St) (i : Nat) (e sz n m bytes : Nat) (xs news : List Value) (K : SV → St → Prop) : Prop :=
  (n + m) * bytes ≤ 140737488355328 ∧ s.un fun fr H G => forceL (kills i fr) fun fr' => forceSp ((H.map (·.kill i)).set i (.row e sz (n + m) (xs ++ news))) fun H' => K (.s i) ⟨fr', H', G⟩

/-- An append of one element that holds a slice of its own: that slice is done. -/
def apLit (s : St) (e sz bytes j m : Nat) (zs : List SV) (x : Option Nat) (o : Oper) (K : SV → St → Prop) : Prop :=
  match idsS zs with
  | [k] => match nth s.H k, Nat.beq j k with
    | some (.row _ szk nk ys), false => (∀ v ∈ ys, v.oneCell' = true) ∧ ∀ A c G', Ghe s.G G' → Sl G' A nk c szk ys → Knw s.G G' A ys →
        match valsOf (fzs k (.slice A nk c) zs) with
        | some news => match Nat.beq news.length (m * sz), allOne (vs news) with
          | true, true => s.un fun fr H _ => forceL (fzs k (.slice A nk c) fr) fun fr' => forceObs ((obfz k (.slice A nk c) H).set k .gone) fun H' => forceSp news fun news' =>
            match x with
            | some i => match Nat.beq i k, nth H' i with
              | false, some (.row e' sz' n xs) => match Nat.beq e' e, Nat.beq sz' sz with
                | true, true => apEnd ⟨fr', H', G'⟩ i e sz n m bytes xs news' K
                | _, _ => Bad o
              | _, _ => Bad o
            | none => m * bytes ≤ 140737488355328 ∧ pushOb ⟨fr', H', G'⟩ (.row e sz m news') (fun i => .s i) K
          | _, _ => Bad o
        | none => Bad o
    | _, _ => Bad o
  | _ => Bad o

def apOp (P : Program) (o : Oper) (t : TypeId) (x y : Operand) (s : St) (K : SV → St → Prop) : Prop :=
  match P.underlying t with
  | some (.slice e) => match infoOf P e, pos P e with
    | some (sz, bytes, z), true => match Nat.beq z.cells.size sz, Nat.ble 1 bytes with
      | true, true => match ev s.fr x, ev s.fr y with
        | .s i, .v (.slice A m c) => match nth s.H i with
          | some (.row e' sz' n xs) => match Nat.beq e' e, Nat.beq sz' sz with
            | true, true => ∃ news, Sl s.G A m c sz news ∧ apEnd s i e sz n m bytes xs news K
            | _, _ => Bad o
          | _ => Bad o
        | .v (.slice none 0 0), .v (.slice A m c) => ∃ news, Sl s.G A m c sz news ∧ m * bytes ≤ 140737488355328 ∧ pushOb s (.row e sz m news) (fun i => .s i) K
        | .v (.slice none 0 0), .s j => match nth s.H j with
          | some (.row _ sz2 m news) => match Nat.beq sz2 sz with
            | true => (∀ v ∈ news, v.oneCell' = true) ∧ m * bytes ≤ 140737488355328 ∧ pushOb s (.row e sz m news) (fun i => .s i) K
            | false => Bad o
          | some (.lit _ m zs) => apLit s e sz bytes j m zs none o K
          | _ => Bad o
        | .s i, .s j => match nth s.H i, nth s.H j, Nat.beq i j with
          | some (.row e' sz' n xs), some (.row _ sz2 m news), false => match Nat.beq e' e, Nat.beq sz' sz, Nat.beq sz2 sz with
            | true, true, true => (∀ v ∈ news, v.oneCell' = true) ∧ apEnd s i e sz n m bytes xs news K
            | _, _, _ => Bad o
          | some (.row _ _ _ _), some (.lit _ m zs), _ => apLit s e sz bytes j m zs (some i) o K
          | _, _, _ => Bad o
        | _, _ => Bad o
      | _, _ => Bad o
    | _, _ => Bad o
  | _ => Bad o

theorem ap_end {P : Program} {o : Oper} {t : TypeId} {x y : Operand} {a : Act} (ho : o.op = .call { callee := .builtin .append, args := #[x, y], argTypes := #[t, t] })
    {s : St} {K : SV → St → Prop} {next : Act → World → Prop} {Q : Exit → Act → World → Prop} {T : List Nat}
    (hK : ∀ sv s', K sv s' → ∀ ρ' v w', Ag E ρ' s'.H s'.G w' → Rvs ρ' s'.fr a.tmps.toList → Rv ρ' sv v → Fp ρ ρ' s.G s'.G T w w' → next (a.put o.dst v) w')
    (hA : Ag E ρ s.H s.G w) (hF : Rvs ρ s.fr a.tmps.toList) {e sz bytes n m i : Nat} {z v yv : Value} {xs news : List Value} (hu : P.underlying t = some (.slice e)) (hinfo : infoOf P e = some (sz, bytes, z)) (hsz : 0 < sz) (hz : z.cells.size = sz) (hb : 1 ≤ bytes)
    (hiT : i ∈ T) (hxv : a.eval x = v) (hyv : a.eval y = yv) (hρ : ρ[i]? = some v) (hH : s.H[i]? = some (.row e sz n xs))
    (hy : (∃ ad c, yv = .slice (some ad) m c ∧ news.length = m * sz ∧ (∀ j u, news[j]? = some u → w.cell? (ad.add j) = some u) ∧ ∀ u ∈ news, u.oneCell' = true) ∨ (yv = .slice none 0 0 ∧ m = 0 ∧ news = []))
    (h : apEnd s i e sz n m bytes xs news K) : o.wp P a w next Q := by
  obtain ⟨info, hi, rfl, rfl, hz0⟩ := infoOf_ok hinfo
  obtain ⟨hbytes, hk⟩ := h
  rw [St.un_eq, forceL_eq, forceSp_eq] at hk
  have hown := hA.obs i _ v hH hρ
  simp only [ObOK] at hown
  have hblk : blkOf v = v.ownBlock := by
    rcases hown.2 with ⟨rfl, _⟩ | ⟨g, cap, cur, rfl, _⟩ <;> rfl
  have h63 : n + m ≤ maxLen := by
    have : (n + m) * 1 ≤ (n + m) * info.bytes := Nat.mul_le_mul_left _ hb
    simp only [maxLen]; omega
  have done : ∀ v' w', (Builtin.append_ #[t, t] o.type #[v, yv]).run P w = .ok v' w' → w'.ownsRow 0 e info.size v' (n + m) (xs ++ news) → w.grownBy w' v.ownBlock →
      (∀ b, blkOf v' = some b → b < w'.heap.size ∧ (blkOf v = some b ∨ w.heap.size ≤ b)) → o.wp P a w next Q := by
    intro v' w' hr ho' hg hbk
    refine wp_value (w' := w') (v := v') (by simp [execOp, ho, resolve, invoke, builtin, hxv, hyv, hr]) ?_
    refine hK _ _ hk (ρ.set i v') _ _ ?_ hF.kill_ ?_ (Fp.set_ hg (fun b' hb' => ⟨i, hiT, v, hρ, by rw [hblk]; exact hb'⟩) hiT)
    · refine hA.change hρ (fun ad e => by subst e; rcases hown.2 with ⟨h0, _⟩ | ⟨g, cap, cur, h0, _⟩ <;> simp at h0) (by rw [hblk]; exact hg) ?_ hbk
      simp only [ObOK]; exact ho'
    · simp only [Rv]; rw [List.getElem?_set_self (List.getElem?_eq_some_iff.1 hρ).1]
  rcases hy with ⟨ad, c, rfl, hl, hc, h1⟩ | ⟨rfl, rfl, rfl⟩
  · obtain ⟨v', w', hr, ho', hg, hnil, hat⟩ := run_append_own_at (P := P) w 0 t o.type e info z info.size info.bytes hu hi hz0 rfl rfl hz hsz v n xs hown ad m c news hl hc h1 h63 hbytes (Nat.zero_le _)
    refine done v' w' hr ho' hg fun b hb' => ?_
    have hb2 : v'.ownBlock = some b := by
      rcases ho'.2 with ⟨rfl, _⟩ | ⟨g, cap, cur, rfl, _⟩
      · simp [blkOf] at hb'
      · simpa [blkOf, Value.ownBlock] using hb'
    refine ⟨(ho'.lt b hb2).2, ?_⟩
    rcases hat with h1' | h1'
    · left; rw [hblk, ← h1', hb2]
    · right; rw [hb2] at h1'; simp at h1'; omega
  · have hr := run_append_owned_none (P := P) (w := w) 0 t o.type e info info.size hu hi v n xs hown
    refine done v w hr (by simpa using hown) ⟨rfl, rfl, rfl, Nat.le_refl _, fun _ _ _ => rfl⟩ fun b hb' => ⟨(hA.own i v b hρ hb').1, .inl hb'⟩
theorem ap_nil {P : Program} {o : Oper} {t : TypeId} {x y : Operand} {a : Act} (ho : o.op = .call { callee := .builtin .append, args := #[x, y], argTypes := #[t, t] })
    {s : St} {K : SV → St → Prop} {next : Act → World → Prop} {Q : Exit → Act → World → Prop} {T : List Nat}
    (hK : ∀ sv s', K sv s' → ∀ ρ' v w', Ag E ρ' s'.H s'.G w' → Rvs ρ' s'.fr a.tmps.toList → Rv ρ' sv v → Fp ρ ρ' s.G s'.G T w w' → next (a.put o.dst v) w')
    (hA : Ag E ρ s.H s.G w) (hF : Rvs ρ s.fr a.tmps.toList) {e sz bytes m : Nat} {z yv : Value} {news : List Value} (hu : P.underlying t = some (.slice e)) (hinfo : infoOf P e = some (sz, bytes, z)) (hsz : 0 < sz) (hz : z.cells.size = sz) (hb : 1 ≤ bytes)
    (hxv : a.eval x = .slice none 0 0) (hyv : a.eval y = yv)
    (hy : (∃ ad c, yv = .slice (some ad) m c ∧ news.length = m * sz ∧ (∀ j u, news[j]? = some u → w.cell? (ad.add j) = some u) ∧ ∀ u ∈ news, u.oneCell' = true) ∨ (yv = .slice none 0 0 ∧ m = 0 ∧ news = []))
    (hbytes : m * bytes ≤ 140737488355328) (h : pushOb s (.row e sz m news) (fun i => .s i) K) : o.wp P a w next Q := by
  obtain ⟨info, hi, rfl, rfl, hz0⟩ := infoOf_ok hinfo
  unfold pushOb at h
  rw [St.un_eq, litN_eq, forceSp_eq] at h
  have hown : w.ownsRow 0 e info.size (.slice none 0 0) 0 [] := World.ownsRow_nil _ _ _ _
  have h63 : 0 + m ≤ maxLen := by
    have : m * 1 ≤ m * info.bytes := Nat.mul_le_mul_left _ hb
    simp only [maxLen]; omega
  have done : ∀ v' w', (Builtin.append_ #[t, t] o.type #[.slice none 0 0, yv]).run P w = .ok v' w' → w'.ownsRow 0 e info.size v' m news → w.grownBy w' none →
      (∀ b, blkOf v' = some b → w.heap.size ≤ b ∧ b < w'.heap.size) → o.wp P a w next Q := by
    intro v' w' hr ho' hg hbk
    refine wp_value (w' := w') (v := v') (by simp [execOp, ho, resolve, invoke, builtin, hxv, hyv, hr]) ?_
    refine hK _ _ h (ρ ++ [v']) _ _ (hA.push hg hbk ?_) hF.ext ?_ (Fp.push hg)
    · simp only [ObOK]; exact ho'
    · simp only [Rv]; rw [← hA.len]; simp
  rcases hy with ⟨ad, c, rfl, hl, hc, h1⟩ | ⟨rfl, rfl, rfl⟩
  · obtain ⟨v', w', hr, ho', hg, hnil, hat⟩ := run_append_own_at (P := P) w 0 t o.type e info z info.size info.bytes hu hi hz0 rfl rfl hz hsz _ 0 [] hown ad m c news hl hc h1 h63 (by simpa using hbytes) (Nat.zero_le _)
    simp only [Nat.zero_add, List.nil_append] at ho'
    refine done v' w' hr ho' hg fun b hb' => ?_
    have hb2 : v'.ownBlock = some b := by
      rcases ho'.2 with ⟨rfl, _⟩ | ⟨g, cap, cur, rfl, _⟩
      · simp [blkOf] at hb'
      · simpa [blkOf, Value.ownBlock] using hb'
    refine ⟨?_, (ho'.lt b hb2).2⟩
    rcases hat with h1' | h1'
    · rw [hb2] at h1'; simp [Value.ownBlock] at h1'
    · rw [hb2] at h1'; simp at h1'; omega
  · have hr := run_append_owned_none (P := P) (w := w) 0 t o.type e info info.size hu hi _ 0 [] hown
    exact done _ w hr hown ⟨rfl, rfl, rfl, Nat.le_refl _, fun _ _ _ => rfl⟩ fun b hb' => by simp [blkOf] at hb'

theorem pos_lt {P : Program} {t : TypeId} {sz bytes : Nat} {z : Value} (h : pos P t = true) (hi : infoOf P t = some (sz, bytes, z)) : 0 < sz := by
  obtain ⟨i, h1, h2, _⟩ := infoOf_ok hi
  obtain ⟨n, hn⟩ := pos_size h
  simp [szOf, h1] at hn
  omega

theorem beq_ff {a b : Nat} (h : Nat.beq a b = false) : a ≠ b := fun e => by subst e; simp at h
theorem apLit_ok {P : Program} {o : Oper} {t : TypeId} {x y : Operand} {a : Act} (ho : o.op = .call { callee := .builtin .append, args := #[x, y], argTypes := #[t, t] })
    {s : St} {K : SV → St → Prop} {next : Act → World → Prop} {Q : Exit → Act → World → Prop}
    (hK : ∀ sv s', K sv s' → ∀ ρ' v w', Ag E ρ' s'.H s'.G w' → Rvs ρ' s'.fr a.tmps.toList → Rv ρ' sv v → Fp ρ ρ' s.G s'.G (tcOf s o) w w' → next (a.put o.dst v) w')
    (hA : Ag E ρ s.H s.G w) (hF : Rvs ρ s.fr a.tmps.toList) {e sz bytes : Nat} {z : Value} (hu : P.underlying t = some (.slice e)) (hinfo : infoOf P e = some (sz, bytes, z)) (hsz : 0 < sz) (hz : z.cells.size = sz) (hb : 1 ≤ bytes)
    {j m e2 : Nat} {zs : List SV} (hy : ev s.fr y = .s j) (hH : s.H[j]? = some (.lit e2 m zs)) (xo : Option Nat) (hx : ev s.fr x = match xo with | some i => .s i | none => .v (.slice none 0 0))
    (h : apLit s e sz bytes j m zs xo o K) : o.wp P a w next Q := by
  unfold apLit at h
  split at h
  case h_2 => exact h.no.elim
  rename_i k hids
  simp only [nth_eq] at h
  split at h
  case h_2 => exact h.no.elim
  rename_i ek szk nk ys hHk hjk
  have hjk' := beq_ff hjk
  obtain ⟨h1, h2⟩ := h
  obtain ⟨A, c, G', hρ, hg, hfr, hwh, hsl, hA'⟩ := hA.done5 hHk h1
  have h := h2 A c G' hg hsl ⟨hfr, hwh⟩
  clear h2
  split at h
  case h_2 => exact h.no.elim
  rename_i news hvals
  split at h
  case h_2 => exact h.no.elim
  rename_i hl hones
  have hl' := Nat.eq_of_beq_eq_true hl
  simp only [St.un_eq, forceL_eq, forceObs_eq, forceSp_eq] at h
  rw [← obfz_eq] at hA'
  have hF' : Rvs (ρ.set k .nilFunc) (fzs k (.slice A nk c) s.fr) a.tmps.toList := hF.fz_ hρ _
  have hkT : k ∈ tcOf s o := by
    simp only [tcOf, ho, apT, hy, nth_eq, hH, hids]
    split <;> simp
  have hyv := ev_ok hF y
  rw [hy] at hyv
  simp only [Rv] at hyv
  have hyv' : (ρ.set k .nilFunc)[j]? = some (a.eval y) := by rw [List.getElem?_set_ne (fun e => hjk' e.symm)]; exact hyv
  have hHj : ((obfz k (.slice A nk c) s.H).set k .gone)[j]? = some (.lit e2 m (fzs k (.slice A nk c) zs)) := by
    rw [List.getElem?_set_ne (fun e => hjk' e.symm), obfz_eq, List.getElem?_map, hH]; rfl
  have hob := hA'.obs j _ _ hHj hyv'
  simp only [ObOK] at hob
  obtain ⟨b, cs, hyeq, hblk, hrv⟩ := hob
  have hcs := valsOf_ok hvals hrv
  have hone : ∀ u ∈ news, u.oneCell' = true := allOne_ok hA' (Rvs.of_vs news) hones
  have hnews : (∃ ad c, a.eval y = .slice (some ad) m c ∧ news.length = m * sz ∧ (∀ j u, news[j]? = some u → w.cell? (ad.add j) = some u) ∧ ∀ u ∈ news, u.oneCell' = true) ∨ (a.eval y = .slice none 0 0 ∧ m = 0 ∧ news = []) := by
    refine .inl ⟨⟨b, 0, none⟩, m, hyeq, hl', fun i u hi => ?_, hone⟩
    rw [add_off, Nat.zero_add, cell_at hblk]
    rw [← hcs] at hi
    simpa using hi
  have hK' : ∀ (T : List Nat), (∀ i ∈ T, i ∈ tcOf s o) → ∀ sv s', K sv s' → ∀ ρ' v w', Ag E ρ' s'.H s'.G w' → Rvs ρ' s'.fr a.tmps.toList → Rv ρ' sv v → Fp (ρ.set k .nilFunc) ρ' G' s'.G T w w' → next (a.put o.dst v) w' :=
    fun T hT sv s' hk ρ' v w' ha hf hr hfp => hK sv s' hk ρ' v w' ha hf hr (hfp.frz hkT hT hg)
  cases xo with
  | some i =>
    simp only at h hx
    split at h
    case h_2 => exact h.no.elim
    rename_i e' sz' n xs hik hHi
    split at h
    case h_2 => exact h.no.elim
    rename_i he hs'
    have he' := Nat.eq_of_beq_eq_true he
    have hs'' := Nat.eq_of_beq_eq_true hs'
    subst he' hs''
    have hik' := beq_ff hik
    have hxv := ev_ok hF x
    rw [hx] at hxv
    simp only [Rv] at hxv
    refine ap_end (s := ⟨fzs k (.slice A nk c) s.fr, (obfz k (.slice A nk c) s.H).set k .gone, G'⟩) (T := [i]) ho (hK' [i] ?_) hA' hF' hu hinfo hsz hz hb (by simp) rfl rfl ?_ hHi hnews h
    · intro q hq
      simp at hq; subst hq
      simp [tcOf, ho, hx]
    · rw [List.getElem?_set_ne (fun e => hik' e.symm)]; exact hxv
  | none =>
    simp only at h hx
    have hxv := ev_ok hF x
    rw [hx] at hxv
    simp only [Rv] at hxv
    exact ap_nil (s := ⟨fzs k (.slice A nk c) s.fr, (obfz k (.slice A nk c) s.H).set k .gone, G'⟩) (T := []) ho (hK' [] (by simp)) hA' hF' hu hinfo hsz hz hb hxv rfl hnews h.1 h.2

theorem ap_ok {P : Program} {o : Oper} {t : TypeId} {x y : Operand} (ho : o.op = .call { callee := .builtin .append, args := #[x, y], argTypes := #[t, t] }) (s : St) : Ok P E o s (apOp P o t x y s) := by
  intro K next Q a ρ w hK hS hA hF
  have hx := ev_ok hF x
  have hy := ev_ok hF y
  unfold apOp at hS
  split at hS
  case h_2 => exact hS.no.elim
  rename_i e hu
  split at hS
  case h_2 => exact hS.no.elim
  rename_i sz bytes z hinfo hpos
  split at hS
  case h_2 => exact hS.no.elim
  rename_i hz hb
  have hz' := Nat.eq_of_beq_eq_true hz
  have hb' := Nat.le_of_ble_eq_true hb
  have hsz := pos_lt hpos hinfo
  split at hS
  · rename_i i A m c h1 h2
    rw [h1] at hx
    rw [h2] at hy
    simp only [Rv] at hx hy
    simp only [nth_eq] at hS
    split at hS
    case h_2 => exact hS.no.elim
    rename_i e' sz' n xs hH
    split at hS
    case h_2 => exact hS.no.elim
    rename_i he hs'
    have he' := Nat.eq_of_beq_eq_true he
    have hs'' := Nat.eq_of_beq_eq_true hs'
    subst he' hs''
    obtain ⟨news, hsl, hend⟩ := hS
    refine ap_end ho hK hA hF hu hinfo hsz hz' hb' (by simp [tcOf, ho, h1]) rfl hy hx hH ?_ hend
    cases A with
    | none =>
      obtain ⟨rfl, rfl⟩ := hsl.nil rfl
      exact .inr ⟨rfl, rfl, List.eq_nil_of_length_eq_zero (by simpa using hsl.len)⟩
    | some ad => exact .inl ⟨ad, c, rfl, hsl.len, fun j u hj => hA.cell (hsl.there ad rfl j u hj), hsl.ones⟩
  · rename_i A m c h1 h2
    rw [h1] at hx
    rw [h2] at hy
    simp only [Rv] at hx hy
    obtain ⟨news, hsl, hby, hend⟩ := hS
    refine ap_nil ho hK hA hF hu hinfo hsz hz' hb' hx hy ?_ hby hend
    cases A with
    | none =>
      obtain ⟨rfl, rfl⟩ := hsl.nil rfl
      exact .inr ⟨rfl, rfl, List.eq_nil_of_length_eq_zero (by simpa using hsl.len)⟩
    | some ad => exact .inl ⟨ad, c, rfl, hsl.len, fun j u hj => hA.cell (hsl.there ad rfl j u hj), hsl.ones⟩
  · rename_i j h1 h2
    rw [h1] at hx
    rw [h2] at hy
    simp only [Rv] at hx hy
    simp only [nth_eq] at hS
    split at hS
    case h_2 => rename_i hH2; exact apLit_ok ho hK hA hF hu hinfo hsz hz' hb' h2 hH2 none h1 hS
    case h_3 => exact hS.no.elim
    rename_i e2 sz2 m news hH2
    split at hS
    case h_2 => exact hS.no.elim
    rename_i hs2
    have hs3 := Nat.eq_of_beq_eq_true hs2
    subst hs3
    obtain ⟨h1c, hby, hend⟩ := hS
    refine ap_nil ho hK hA hF hu hinfo hsz hz' hb' hx rfl ?_ hby hend
    have hob := hA.obs j _ _ hH2 hy
    simp only [ObOK] at hob
    rcases hob.2 with ⟨h0, h0'⟩ | ⟨g, cap, cur, h0, _⟩
    · subst h0'
      exact .inr ⟨h0, rfl, List.eq_nil_of_length_eq_zero (by simpa using hob.1)⟩
    · exact .inl ⟨⟨g, 0, none⟩, cap, h0, hob.1, hob.cells (by rw [h0]; rfl), h1c⟩
  · rename_i i j h1 h2
    rw [h1] at hx
    rw [h2] at hy
    simp only [Rv] at hx hy
    simp only [nth_eq] at hS
    split at hS
    case h_2 => rename_i hHa hHb; exact apLit_ok ho hK hA hF hu hinfo hsz hz' hb' h2 hHb (some i) h1 hS
    case h_3 => exact hS.no.elim
    rename_i e' sz' n xs e2 sz2 m news hH hH2 hij
    split at hS
    case h_2 => exact hS.no.elim
    rename_i he hs' hs2
    have he' := Nat.eq_of_beq_eq_true he
    have hs'' := Nat.eq_of_beq_eq_true hs'
    have hs3 := Nat.eq_of_beq_eq_true hs2
    subst he' hs'' hs3
    obtain ⟨h1c, hend⟩ := hS
    refine ap_end ho hK hA hF hu hinfo hsz hz' hb' (by simp [tcOf, ho, h1]) rfl rfl hx hH ?_ hend
    have hob := hA.obs j _ _ hH2 hy
    simp only [ObOK] at hob
    rcases hob.2 with ⟨h0, h0'⟩ | ⟨g, cap, cur, h0, _⟩
    · subst h0'
      exact .inr ⟨h0, rfl, List.eq_nil_of_length_eq_zero (by simpa using hob.1)⟩
    · refine .inl ⟨⟨g, 0, none⟩, cap, h0, hob.1, hob.cells (by rw [h0]; rfl), h1c⟩
  · exact hS.no.elim

/-! ### make -/
def mkOp (P : Program) (o : Oper) (t : TypeId) (x y : Operand) (s : St) (K : SV → St → Prop) : Prop :=
  match P.underlying t with
  | some (.slice e) => match infoOf P e with
    | some (1, bytes, z) => match ev s.fr x, ev s.fr y, one (.v z), Nat.ble 1 bytes with
      | .v (.int _ n), .v (.int _ n'), true, true => litN bytes fun bytes => n' = n ∧ (0 ≤ n ∧ n * bytes ≤ 281474976710656) ∧ pushOb s (.row e 1 n.toNat (List.replicate n.toNat z)) (fun i => .s i) K
      | _, _, _, _ => Bad o
    | some (sz, bytes, z) => match ev s.fr x, ev s.fr y, Nat.beq z.cells.size sz, Nat.ble 1 bytes with
      | .v (.int _ n), .v (.int _ n'), true, true => litN bytes fun bytes => n' = n ∧ (0 ≤ n ∧ n * bytes ≤ 281474976710656) ∧ pushOb s (.row e sz n.toNat (madeCells z.cells (n.toNat * sz)).toList) (fun i => .s i) K
      | _, _, _, _ => Bad o
    | _ => Bad o
  | _ => Bad o
theorem mk_ok {P : Program} {o : Oper} {t : TypeId} {x y : Operand} (ho : o.op = .makeSlice t x y) (s : St) : Ok P E o s (mkOp P o t x y s) := by
  intro K next Q a ρ w hK hS hA hF
  have hx := ev_ok hF x
  have hy := ev_ok hF y
  unfold mkOp at hS
  split at hS
  case h_2 => exact hS.no.elim
  rename_i e hu
  split at hS
  case h_3 => exact hS.no.elim
  case h_2 =>
    rename_i sz bytes z hne hinfo
    obtain ⟨i, hi, hs, rfl, hz⟩ := infoOf_ok hinfo
    split at hS
    case h_2 => exact hS.no.elim
    rename_i k n k' n' h1 h2 hz1 hb1
    rw [h1] at hx
    rw [h2] at hy
    simp only [Rv] at hx hy
    rw [litN_eq] at hS
    obtain ⟨rfl, ⟨h0, hle⟩, hS⟩ := hS
    have hb1 := Nat.le_of_ble_eq_true hb1
    unfold pushOb at hS
    rw [St.un_eq, litN_eq, forceSp_eq] at hS
    have h63 : n' ≤ 9223372036854775807 := by
      have : n' * 1 ≤ n' * (i.bytes : Int) := Int.mul_le_mul_of_nonneg_left (by omega) h0
      omega
    have hr := run_make (P := P) w t e i z hu hi hz k k' n' n' h0 (Int.le_refl _) (by rw [Int.mul_comm]; exact hle) h63
    refine wp_value (w' := w.alloc (.cells (madeCells z.cells (n'.toNat * i.size)) e)) (v := .slice (some ⟨w.heap.size, 0, none⟩) n'.toNat n'.toNat) (by simp [execOp, ho, hx, hy, hr]) ?_
    refine hK _ _ hS (ρ ++ [.slice (some ⟨w.heap.size, 0, none⟩) n'.toNat n'.toNat]) _ _ ?_ hF.ext ?_ (Fp.push (grown_alloc w _))
    · refine hA.push (grown_alloc w _) (fun b hb => ?_) ?_
      · simp [blkOf] at hb; subst hb; simp
      · simp only [ObOK]
        have := own_lit' w e sz n'.toNat (madeCells z.cells (n'.toNat * sz)).toList (by simp [size_madeCells]) (by simp only [maxLen]; omega)
        rw [hs]
        simpa using this
    · simp only [Rv]; rw [← hA.len]; simp
  rename_i bytes z hinfo
  obtain ⟨i, hi, hs, rfl, hz⟩ := infoOf_ok hinfo
  split at hS
  case h_2 => exact hS.no.elim
  rename_i k n k' n' h1 h2 hz1 hb1
  rw [h1] at hx
  rw [h2] at hy
  simp only [Rv] at hx hy
  rw [litN_eq] at hS
  obtain ⟨rfl, ⟨h0, hle⟩, hS⟩ := hS
  have hb1 := Nat.le_of_ble_eq_true hb1
  have hzc : z.cells = #[z] := by cases z <;> simp_all [one, Value.cells]
  unfold pushOb at hS
  rw [St.un_eq, litN_eq, forceSp_eq] at hS
  have h63 : n' ≤ 9223372036854775807 := by
    have : n' * 1 ≤ n' * (i.bytes : Int) := Int.mul_le_mul_of_nonneg_left (by omega) h0
    omega
  have hr := run_make (P := P) w t e i z hu hi hz k k' n' n' h0 (Int.le_refl _) (by rw [Int.mul_comm]; exact hle) h63
  have hm : (madeCells z.cells (n'.toNat * i.size)).toList = List.replicate n'.toNat z := by
    rw [hs, hzc]
    apply List.ext_getElem
    · simp [madeCells]
    · intro j h1 h2
      simp [madeCells, Nat.mod_one]
  refine wp_value (w' := w.alloc (.cells (madeCells z.cells (n'.toNat * i.size)) e)) (v := .slice (some ⟨w.heap.size, 0, none⟩) n'.toNat n'.toNat) (by simp [execOp, ho, hx, hy, hr]) ?_
  refine hK _ _ hS (ρ ++ [.slice (some ⟨w.heap.size, 0, none⟩) n'.toNat n'.toNat]) _ _ ?_ hF.ext ?_ (Fp.push (grown_alloc w _))
  · refine hA.push (grown_alloc w _) (fun b hb => ?_) ?_
    · simp [blkOf] at hb; subst hb; simp
    · simp only [ObOK]
      have := own_lit' w e 1 n'.toNat (List.replicate n'.toNat z) (by simp) (by simp only [maxLen]; omega)
      rw [← hm] at this ⊢
      simpa using this
  · simp only [Rv]; rw [← hA.len]; simp

/-! ### min, max -/
def mmOp (o : Oper) (mx : Bool) (x y : Operand) (s : St) (K : SV → Prop) : Prop :=
  match ev s.fr x, ev s.fr y with
  | .v (.int k a), .v (.int _ b) => match mx with
    | true => K (.v (.int k (if b > a then b else a)))
    | false => K (.v (.int k (if b < a then b else a)))
  | _, _ => Bad o
theorem min_ok {P : Program} {o : Oper} {x y : Operand} {ts : Array TypeId} (ho : o.op = .call { callee := .builtin .min, args := #[x, y], argTypes := ts }) (s : St) : Qu P E o s (mmOp o false x y s) := by
  intro K a ρ w hS hA hF
  have hx := ev_ok hF x
  have hy := ev_ok hF y
  unfold mmOp at hS
  split at hS
  case h_2 => exact hS.no.elim
  rename_i k p k' q h1 h2
  rw [h1] at hx
  rw [h2] at hy
  simp only [Rv] at hx hy
  exact ⟨.int k (if q < p then q else p), _, hS, by simp [Rv], fun w' _ => by simp [execOp, ho, resolve, invoke, builtin, hx, hy, Builtin.min_, Builtin.min2]⟩
theorem max_ok {P : Program} {o : Oper} {x y : Operand} {ts : Array TypeId} (ho : o.op = .call { callee := .builtin .max, args := #[x, y], argTypes := ts }) (s : St) : Qu P E o s (mmOp o true x y s) := by
  intro K a ρ w hS hA hF
  have hx := ev_ok hF x
  have hy := ev_ok hF y
  unfold mmOp at hS
  split at hS
  case h_2 => exact hS.no.elim
  rename_i k p k' q h1 h2
  rw [h1] at hx
  rw [h2] at hy
  simp only [Rv] at hx hy
  exact ⟨.int k (if q > p then q else p), _, hS, by simp [Rv], fun w' _ => by simp [execOp, ho, resolve, invoke, builtin, hx, hy, Builtin.max_, Builtin.max2]⟩
end
end Go.SX

namespace Go.SX
set_option linter.unusedVariables false
set_option linter.unusedSimpArgs false
section
variable {E : Env} {ρ : List Value} {H : List Ob} {G : Gh} {w : World}

/-- What a call must come to: the objects that it changes, its result and the state behind it. -/
structure CallVC (P : Program) (E : Env) (f : FuncId) (args : List SV) (s : St) (K : List Nat → SV → St → Prop) : Prop where
  enters : ∀ (args : Array Value) (w : World), (callFunc f args).run P w = .ok (.enter f args) w
  calls : ∀ ρ w ys, Ag E ρ s.H s.G w → Rvs ρ args ys → Calls P f ys.toArray w fun e w' => (∃ v T sv s' ρ', e = .returned v ∧ K T sv s' ∧ Ag E ρ' s'.H s'.G w' ∧ Rv ρ' sv v ∧
    (∀ zs, Rvs ρ s.fr zs → Rvs ρ' s'.fr zs) ∧ Fp ρ ρ' s.G s'.G T w w') ∨ ∃ x H' G' ρ', e = .panicked [{ v := x, recovered := false }] ∧ E.Pan x H' G' ∧ Ag E ρ' H' G' w'

/-! ### structs of integers that are compared -/
/-- The cells at the same places, with the same kinds. -/
def zipI : List SV → List SV → Option (List Int × List Int)
  | [], [] => some ([], [])
  | .v (.int k a) :: xs, .v (.int k' b) :: ys => match sameKind k k', zipI xs ys with
    | true, some (l, m) => some (a :: l, b :: m)
    | _, _ => none
  | _, _ => none
def flatS : SV → Option (List SV)
  | .agg xs => some xs
  | .v (.agg ys) => some (vs ys.toList)
  | _ => none
def intFs (P : Program) : List Field → Nat → Bool
  | [], _ => true
  | f :: fs, o => !(f.name == "_") && Nat.beq f.offset o && (match P.underlying f.type with | some (.int _) => true | _ => false) && intFs P fs (o + 1)
def seChk (P : Program) (t : TypeId) (n : Nat) : Bool :=
  match P.underlying t with
  | some (.struct fs) => !P.stoodInHeld t && !P.eqGuardType P.depth t && Nat.beq fs.size n && intFs P fs.toList 0
  | _ => false
/-- The same for structs of bools. -/
def zipB : List SV → List SV → Option (List Bool × List Bool)
  | [], [] => some ([], [])
  | .v (.bool a) :: xs, .v (.bool b) :: ys => match zipB xs ys with
    | some (l, m) => some (a :: l, b :: m)
    | none => none
  | _, _ => none
def boolFs (P : Program) : List Field → Nat → Bool
  | [], _ => true
  | f :: fs, o => !(f.name == "_") && Nat.beq f.offset o && (match P.underlying f.type with | some .bool => true | _ => false) && boolFs P fs (o + 1)
def sbChk (P : Program) (t : TypeId) (n : Nat) : Bool :=
  match P.underlying t with
  | some (.struct fs) => !P.stoodInHeld t && !P.eqGuardType P.depth t && Nat.beq fs.size n && boolFs P fs.toList 0
  | _ => false
/-- Something that is to be computed once. -/
structure ChkVC (b : Bool) (A : Prop) : Prop where
  ok : b = true
  nxt : A
theorem chk {b : Bool} {A : Prop} (h : b = true) (ha : A) : ChkVC b A := ⟨h, ha⟩
def seOp (P : Program) (o : Oper) (q : Bool) (t : TypeId) (x y : Operand) (s : St) (K : SV → Prop) : Prop :=
  match flatS (ev s.fr x), flatS (ev s.fr y) with
  | some xs, some ys => match zipI xs ys with
    | some (l, m) => ChkVC (seChk P t l.length) (forceSp l fun l' => forceSp m fun m' => match q with
      | true => K (.v (.bool (decide (l' = m'))))
      | false => K (.v (.bool !(decide (l' = m')))))
    | none => match zipB xs ys with
      | some (l, m) => ChkVC (sbChk P t l.length) (forceSp l fun l' => forceSp m fun m' => match q with
        | true => K (.v (.bool (decide (l' = m'))))
        | false => K (.v (.bool !(decide (l' = m')))))
      | none => Bad o
  | _, _ => Bad o
theorem flatS_ok {x : SV} {xs : List SV} {v : Value} (h : flatS x = some xs) (hv : Rv ρ x v) : ∃ ys, v = .agg ys ∧ Rvs ρ xs ys.toList := by
  unfold flatS at h
  split at h <;> simp at h <;> subst h
  · simp only [Rv] at hv; exact hv
  · simp only [Rv] at hv; subst hv; exact ⟨_, rfl, Rvs.of_vs _⟩
theorem part_int {P : Program} {t : TypeId} {k : IntKind} (hu : P.underlying t = some (.int k)) (cs : Array Value) (off : Nat) (v : Value) (h : cs[off]? = some v) (w : World) : (part t cs off).run P w = .ok v w :=
  (run_part cs off w).2 (by simp [tyAgg, hu]) v h
theorem run_eqFs {P : Program} (d : Nat) (cs ds : Array Value) (w : World) : ∀ (fs : List Field) (o : Nat) (xs ys : List SV) {l m : List Int}, intFs P fs o = true → fs.length = l.length → zipI xs ys = some (l, m) →
    Rvs ρ xs (cs.toList.drop o) → Rvs ρ ys (ds.toList.drop o) → (Op.eqFields (d + 1) cs ds fs).run P w = .ok (decide (l = m)) w
  | [], o, xs, ys, l, m, _, hl, hz, _, _ => by
    cases l with
    | nil =>
      have : m = [] := by
        unfold zipI at hz
        split at hz
        · simp at hz; exact hz
        · split at hz <;> simp at hz
        · simp at hz
      subst this; simp [Op.eqFields]
    | cons a l => simp at hl
  | f :: fs, o, xs, ys, l, m, hf, hl, hz, hx, hy => by
    unfold zipI at hz
    split at hz
    · simp at hz; obtain ⟨rfl, rfl⟩ := hz; simp at hl
    · rename_i k a xs k' b ys
      split at hz <;> simp at hz
      rename_i l0 m0 hk hz0
      obtain ⟨rfl, rfl⟩ := hz
      have := sameKind_eq hk
      subst this
      simp only [intFs, Bool.and_eq_true, Bool.not_eq_true'] at hf
      obtain ⟨⟨⟨hn, ho⟩, hu⟩, hfs⟩ := hf
      have ho := Nat.eq_of_beq_eq_true ho
      subst ho
      obtain ⟨k', hu⟩ : ∃ k', P.underlying f.type = some (.int k') := by
        split at hu
        · rename_i k' h; exact ⟨k', h⟩
        · simp at hu
      simp only [Rvs, Rv] at hx hy
      obtain ⟨y1, t1, he1, rfl, hx⟩ := hx
      obtain ⟨y2, t2, he2, rfl, hy⟩ := hy
      have g : ∀ {L : List Value} {n : Nat} {v : Value} {t : List Value}, L.drop n = v :: t → L[n]? = some v ∧ L.drop (n + 1) = t := by
        intro L n v t h
        refine ⟨?_, ?_⟩
        · have := congrArg (fun l : List Value => l[0]?) h
          simpa using this
        · have := congrArg (List.drop 1) h
          simpa using this
      obtain ⟨g1, g1'⟩ := g he1
      obtain ⟨g2, g2'⟩ := g he2
      have hn' : f.name ≠ "_" := by simpa using hn
      have p1 := part_int hu cs f.offset _ (by simpa using g1) w
      have p2 := part_int hu ds f.offset _ (by simpa using g2) w
      have he := run_equalIn_int (P := P) w d f.type k k' a b hu
      have ih := run_eqFs d cs ds w fs (f.offset + 1) xs ys hfs (by simpa using hl) hz0 (by rw [g1']; exact hx) (by rw [g2']; exact hy)
      rw [Op.eqFields]
      simp only [if_pos hn', Sem.run_bind, p1, p2, he, Result.andThen_ok]
      by_cases hab : a = b
      · subst hab
        simp only [beq_self_eq_true, Bool.not_true, Bool.false_eq_true, if_false, ih]
        simp
      · have : (a == b) = false := by simpa using hab
        simp [this, hab]
    · simp at hz
theorem part_bool {P : Program} {t : TypeId} (hu : P.underlying t = some .bool) (cs : Array Value) (off : Nat) (v : Value) (h : cs[off]? = some v) (w : World) : (part t cs off).run P w = .ok v w :=
  (run_part cs off w).2 (by simp [tyAgg, hu]) v h
theorem run_eqFsB {P : Program} (d : Nat) (cs ds : Array Value) (w : World) : ∀ (fs : List Field) (o : Nat) (xs ys : List SV) {l m : List Bool}, boolFs P fs o = true → fs.length = l.length → zipB xs ys = some (l, m) →
    Rvs ρ xs (cs.toList.drop o) → Rvs ρ ys (ds.toList.drop o) → (Op.eqFields (d + 1) cs ds fs).run P w = .ok (decide (l = m)) w
  | [], o, xs, ys, l, m, _, hl, hz, _, _ => by
    cases l with
    | nil =>
      have : m = [] := by
        unfold zipB at hz
        split at hz
        · simp at hz; exact hz
        · split at hz <;> simp at hz
        · simp at hz
      subst this; simp [Op.eqFields]
    | cons a l => simp at hl
  | f :: fs, o, xs, ys, l, m, hf, hl, hz, hx, hy => by
    unfold zipB at hz
    split at hz
    · simp at hz; obtain ⟨rfl, rfl⟩ := hz; simp at hl
    · rename_i a xs b ys
      split at hz <;> simp at hz
      rename_i l0 m0 hz0
      obtain ⟨rfl, rfl⟩ := hz
      simp only [boolFs, Bool.and_eq_true, Bool.not_eq_true'] at hf
      obtain ⟨⟨⟨hn, ho⟩, hu⟩, hfs⟩ := hf
      have ho := Nat.eq_of_beq_eq_true ho
      subst ho
      have hu : P.underlying f.type = some .bool := by
        split at hu
        · rename_i h; exact h
        · simp at hu
      simp only [Rvs, Rv] at hx hy
      obtain ⟨y1, t1, he1, rfl, hx⟩ := hx
      obtain ⟨y2, t2, he2, rfl, hy⟩ := hy
      have g : ∀ {L : List Value} {n : Nat} {v : Value} {t : List Value}, L.drop n = v :: t → L[n]? = some v ∧ L.drop (n + 1) = t := by
        intro L n v t h
        refine ⟨?_, ?_⟩
        · have := congrArg (fun l : List Value => l[0]?) h
          simpa using this
        · have := congrArg (List.drop 1) h
          simpa using this
      obtain ⟨g1, g1'⟩ := g he1
      obtain ⟨g2, g2'⟩ := g he2
      have hn' : f.name ≠ "_" := by simpa using hn
      have p1 := part_bool hu cs f.offset _ (by simpa using g1) w
      have p2 := part_bool hu ds f.offset _ (by simpa using g2) w
      have he := run_equalIn_bool' (P := P) w d f.type a b hu
      have ih := run_eqFsB d cs ds w fs (f.offset + 1) xs ys hfs (by simpa using hl) hz0 (by rw [g1']; exact hx) (by rw [g2']; exact hy)
      rw [Op.eqFields]
      simp only [if_pos hn', Sem.run_bind, p1, p2, he, Result.andThen_ok]
      by_cases hab : a = b
      · subst hab
        simp only [beq_self_eq_true, Bool.not_true, Bool.false_eq_true, if_false, ih]
        simp
      · have : (a == b) = false := by simpa using hab
        simp [this, hab]
    · simp at hz
theorem run_eqGuard_struct {P : Program} (op : BinOp) (q : Bool) (hop : isEq op = some q) (t : TypeId) (x y : Operand) (xs : Array Value) (b : Value) (hg : P.eqGuardType P.depth t = false) (w : World) : (eqGuard op t x y (.agg xs) b).run P w = .ok () w := by
  unfold eqGuard
  cases op <;> simp [isEq] at hop <;> cases b <;> simp [hg, run_program]
theorem se_ok {P : Program} {o : Oper} {op : BinOp} {q : Bool} {t t' : TypeId} {x y : Operand} (ho : o.op = .binOp op t x y t') (hop : isEq op = some q) (s : St) : Qu P E o s (seOp P o q t x y s) := by
  intro K a ρ w hS hA hF
  have hx := ev_ok hF x
  have hy := ev_ok hF y
  unfold seOp at hS
  split at hS
  case h_2 => exact hS.no.elim
  rename_i xs ys h1 h2
  obtain ⟨cs, hc, hr1⟩ := flatS_ok h1 hx
  obtain ⟨ds, hd, hr2⟩ := flatS_ok h2 hy
  split at hS
  case h_2 =>
    split at hS
    case h_2 => exact hS.no.elim
    rename_i l m hz
    obtain ⟨hchk, hS⟩ := hS
    rw [forceSp_eq, forceSp_eq] at hS
    unfold sbChk at hchk
    split at hchk
    case h_2 => simp at hchk
    rename_i fs hu
    simp only [Bool.and_eq_true, Bool.not_eq_true'] at hchk
    obtain ⟨⟨⟨hst, hgd⟩, hsz⟩, hfs⟩ := hchk
    have hsz := Nat.eq_of_beq_eq_true hsz
    have hff : P.fieldsOf t = fs := by simp [Program.fieldsOf, hu]
    have heq : ∀ w, (Op.equal t (.agg cs) (.agg ds)).run P w = .ok (decide (l = m)) w := by
      intro w
      show (Op.equalIn (9999 + 1) t (.agg cs) (.agg ds)).run P w = _
      rw [run_equalIn_struct w 9999 t cs ds (by rw [hff]; exact hu) hst, hff]
      exact run_eqFsB 9998 cs ds w fs.toList 0 xs ys hfs (by simpa using hsz) hz (by simpa using hr1) (by simpa using hr2)
    have hb := fun w => binOp_eql (P := P) (w := w) (t := t) (vx := .agg cs) (vy := .agg ds) rfl (heq w)
    have hguard := fun w => run_eqGuard_struct op q hop t x y cs (.agg ds) hgd w
    cases q with
    | true =>
      cases op <;> simp [isEq] at hop
      exact ⟨.bool (decide (l = m)), _, hS, by simp only [Rv], fun w' _ => by simp [execOp, ho, hc, hd, hguard, (hb w').1]⟩
    | false =>
      cases op <;> simp [isEq] at hop
      exact ⟨.bool !(decide (l = m)), _, hS, by simp only [Rv], fun w' _ => by simp [execOp, ho, hc, hd, hguard, (hb w').2]⟩
  rename_i l m hz
  obtain ⟨hchk, hS⟩ := hS
  rw [forceSp_eq, forceSp_eq] at hS
  unfold seChk at hchk
  split at hchk
  case h_2 => simp at hchk
  rename_i fs hu
  simp only [Bool.and_eq_true, Bool.not_eq_true'] at hchk
  obtain ⟨⟨⟨hst, hgd⟩, hsz⟩, hfs⟩ := hchk
  have hsz := Nat.eq_of_beq_eq_true hsz
  have hff : P.fieldsOf t = fs := by simp [Program.fieldsOf, hu]
  have heq : ∀ w, (Op.equal t (.agg cs) (.agg ds)).run P w = .ok (decide (l = m)) w := by
    intro w
    show (Op.equalIn (9999 + 1) t (.agg cs) (.agg ds)).run P w = _
    rw [run_equalIn_struct w 9999 t cs ds (by rw [hff]; exact hu) hst, hff]
    exact run_eqFs 9998 cs ds w fs.toList 0 xs ys hfs (by simpa using hsz) hz (by simpa using hr1) (by simpa using hr2)
  have hb := fun w => binOp_eql (P := P) (w := w) (t := t) (vx := .agg cs) (vy := .agg ds) rfl (heq w)
  have hguard := fun w => run_eqGuard_struct op q hop t x y cs (.agg ds) hgd w
  cases q with
  | true =>
    cases op <;> simp [isEq] at hop
    exact ⟨.bool (decide (l = m)), _, hS, by simp only [Rv], fun w' _ => by simp [execOp, ho, hc, hd, hguard, (hb w').1]⟩
  | false =>
    cases op <;> simp [isEq] at hop
    exact ⟨.bool !(decide (l = m)), _, hS, by simp only [Rv], fun w' _ => by simp [execOp, ho, hc, hd, hguard, (hb w').2]⟩
/-! ### a slice of bytes as a string -/
def cvOp (P : Program) (o : Oper) (src dst : TypeId) (x : Operand) (s : St) (K : SV → Prop) : Prop :=
  match P.underlying src, P.underlying dst, ev s.fr x with
  | some (.slice e), some .string, .v (.slice A n c) => match P.underlying e with
    | some (.int .u8) => ∃ l : List Int, l.length = n ∧ Sl s.G A n c 1 (l.map (Value.int .u8)) ∧ K (.v (.string (strOfNums l)))
    | _ => Bad o
  | _, _, _ => Bad o
theorem cv_ok {P : Program} {o : Oper} {src dst : TypeId} {x : Operand} (ho : o.op = .convert src dst x) (s : St) : Qu P E o s (cvOp P o src dst x s) := by
  intro K a ρ w hS hA hF
  have hx := ev_ok hF x
  unfold cvOp at hS
  split at hS
  case h_2 => exact hS.no.elim
  rename_i e A n c h1 h2 h3
  split at hS
  case h_2 => exact hS.no.elim
  rename_i he
  rw [h3] at hx
  simp only [Rv] at hx
  obtain ⟨l, hl, hsl, hK⟩ := hS
  refine ⟨.string (strOfNums l), _, hK, by simp only [Rv], fun w' hg => ?_⟩
  have hrun : (convert src dst (.slice A n c)).run P w' = .ok (.string (strOfNums l)) w' := by
    rw [run_convert_bytes_string w' src dst e A n c h1 he h2]
    cases A with
    | none =>
      obtain ⟨rfl, _⟩ := hsl.nil rfl
      have : l = [] := List.eq_nil_of_length_eq_zero hl
      subst this
      simp [Conv.bytesToString]
      rfl
    | some ad =>
      have hc := run_loadCells_list (P := P) w' ad (l.map (Value.int .u8)) (fun j v hj => Gcell_agr hA hg (hsl.there ad rfl j v hj))
      rw [List.length_map, hl] at hc
      rw [run_bytesToString w' ad n c l hc, foldl_push_bytes]
      simp [strOfNums, ByteArray.empty, ByteArray.emptyWithCapacity]
      rfl
  simp [execOp, ho, hx, hrun]

/-- An interface value is compared with the literal nil. -/
def nilCmp (P : Program) (t : TypeId) (x : SV) (y : Operand) : Option Bool :=
  match P.underlying t, x, y with
  | some (.interface _), .v (.iface _ _), .const .nilIface => some false
  | some (.interface _), .v .nilIface, .const .nilIface => some true
  | _, _, _ => none
theorem nilCmp_ok {P : Program} {o : Oper} {op : BinOp} {q b : Bool} {t t' : TypeId} {x y : Operand} (ho : o.op = .binOp op t x y t') (hop : isEq op = some q) {s : St} (h : nilCmp P t (ev s.fr x) y = some b) {a : Act} (hF : Rvs ρ s.fr a.tmps.toList) (w : World) :
    (execOp a.eval o).run P w = .ok (.value (.bool (if q then b else !b))) w := by
  have hx := ev_ok hF x
  unfold nilCmp at h
  split at h <;> simp at h <;> subst h <;> rename_i hu he <;> rw [he] at hx <;> simp only [Rv] at hx
  · have hd : ∀ d, (Op.equalIn (d + 1) t (a.eval x) .nilIface).run P w = .ok false w := fun d => by
      rw [hx]
      simp [Op.equalIn, run_underlying hu]
    have heq : (Op.equal t (a.eval x) .nilIface).run P w = .ok false w := hd 9999
    have hb := binOp_eql (P := P) (w := w) (t := t) (vx := a.eval x) (vy := .nilIface) (by rw [hx]; rfl) heq
    have hg : ∀ op, (eqGuard op t x (.const .nilIface) (a.eval x) .nilIface).run P w = .ok () w := by
      intro op
      rw [hx]; unfold eqGuard; cases op <;> simp
    cases op <;> simp [isEq] at hop <;> subst hop
    · have hr : (do eqGuard .eql t x (.const .nilIface) (a.eval x) .nilIface; binOp .eql t (a.eval x) .nilIface : Sem Value).run P w = .ok (.bool false) w := by
        rw [Sem.run_bind, hg]; exact hb.1
      simp only [execOp, ho]
      rw [Sem.run_bind]
      exact congrArg (fun r : Result Value => r.andThen fun a w' => Sem.run P (pure (Next.value a)) w') hr
    · have hr : (do eqGuard .neq t x (.const .nilIface) (a.eval x) .nilIface; binOp .neq t (a.eval x) .nilIface : Sem Value).run P w = .ok (.bool true) w := by
        rw [Sem.run_bind, hg]; exact hb.2
      simp only [execOp, ho]
      rw [Sem.run_bind]
      exact congrArg (fun r : Result Value => r.andThen fun a w' => Sem.run P (pure (Next.value a)) w') hr
  · have hd : ∀ d, (Op.equalIn (d + 1) t (a.eval x) .nilIface).run P w = .ok true w := fun d => by
      rw [hx]
      simp [Op.equalIn, run_underlying hu]
    have heq : (Op.equal t (a.eval x) .nilIface).run P w = .ok true w := hd 9999
    have hb := binOp_eql (P := P) (w := w) (t := t) (vx := a.eval x) (vy := .nilIface) (by rw [hx]; rfl) heq
    have hg : ∀ op, (eqGuard op t x (.const .nilIface) (a.eval x) .nilIface).run P w = .ok () w := by
      intro op
      rw [hx]; unfold eqGuard; cases op <;> simp
    cases op <;> simp [isEq] at hop <;> subst hop
    · have hr : (do eqGuard .eql t x (.const .nilIface) (a.eval x) .nilIface; binOp .eql t (a.eval x) .nilIface : Sem Value).run P w = .ok (.bool true) w := by
        rw [Sem.run_bind, hg]; exact hb.1
      simp only [execOp, ho]
      rw [Sem.run_bind]
      exact congrArg (fun r : Result Value => r.andThen fun a w' => Sem.run P (pure (Next.value a)) w') hr
    · have hr : (do eqGuard .neq t x (.const .nilIface) (a.eval x) .nilIface; binOp .neq t (a.eval x) .nilIface : Sem Value).run P w = .ok (.bool false) w := by
        rw [Sem.run_bind, hg]; exact hb.2
      simp only [execOp, ho]
      rw [Sem.run_bind]
      exact congrArg (fun r : Result Value => r.andThen fun a w' => Sem.run P (pure (Next.value a)) w') hr
def quOp (P : Program) (o : Oper) (s : St) (K : SV → Prop) : Prop :=
  match puOp P o s with
  | some sv => forceSV sv K
  | none => match o.op with
    | .load T x => ldOp P o T x s fun v => forceSV v K
    | .pick c a b => pkOp o c a b s K
    | .binOp op t x y _ => match isEq op with
      | some q => match nilCmp P t (ev s.fr x) y with
        | some true => K (.v (.bool q))
        | some false => K (.v (.bool !q))
        | none => seOp P o q t x y s K
      | none => dvOp o op x y s K
    | .slice t x lo hi mx => slOp P o t x lo hi mx s K
    | .indexAddr t x i => ixOp P o t x i s K
    | .index t x i => isOp P o t x i s K
    | .convert src dst x => cvOp P o src dst x s K
    | .build t parts => bdOp P o t parts s K
    | .call { callee := .builtin .min, args, .. } => match args.toList with
      | [x, y] => mmOp o false x y s K
      | _ => Bad o
    | .call { callee := .builtin .max, args, .. } => match args.toList with
      | [x, y] => mmOp o true x y s K
      | _ => Bad o
    | _ => Bad o

theorem two {α : Type} {xs : Array α} {x y : α} (h : xs.toList = [x, y]) : xs = #[x, y] := by rw [← Array.toArray_toList (xs := xs), h]

theorem qu_ok {P : Program} {o : Oper} {s : St} : Qu P E o s (quOp P o s) := by
  intro K a ρ w hS hA hF
  unfold quOp at hS
  split at hS
  · rename_i sv hp
    rw [forceSV_eq] at hS
    exact pu_ok hp K a ρ w hS hA hF
  · split at hS
    · rename_i T x ho
      obtain ⟨v, sv, hk, hr⟩ := ld_ok ho s (fun v => forceSV v K) a ρ w hS hA hF
      rw [forceSV_eq] at hk
      exact ⟨v, sv, hk, hr⟩
    · rename_i ho; exact pk_ok ho s K a ρ w hS hA hF
    · rename_i ho
      split at hS
      · rename_i q hq
        split at hS
        · rename_i hn
          exact ⟨.bool q, _, hS, by simp only [Rv], fun w' _ => by have := nilCmp_ok ho hq hn hF w'; cases q <;> simpa using this⟩
        · rename_i hn
          exact ⟨.bool !q, _, hS, by simp only [Rv], fun w' _ => by have := nilCmp_ok ho hq hn hF w'; cases q <;> simpa using this⟩
        · exact se_ok ho hq s K a ρ w hS hA hF
      · exact dv_ok ho s K a ρ w hS hA hF
    · rename_i ho; exact sl_ok ho s K a ρ w hS hA hF
    · rename_i ho; exact ix_ok ho s K a ρ w hS hA hF
    · rename_i ho; exact is_ok ho s K a ρ w hS hA hF
    · rename_i ho; exact cv_ok ho s K a ρ w hS hA hF
    · rename_i ho; exact bd_ok ho s K a ρ w hS hA hF
    · rename_i args ts ho
      split at hS
      · rename_i x y hargs
        rw [two hargs] at ho
        exact min_ok ho s K a ρ w hS hA hF
      · exact hS.no.elim
    · rename_i args ts ho
      split at hS
      · rename_i x y hargs
        rw [two hargs] at ho
        exact max_ok ho s K a ρ w hS hA hF
      · exact hS.no.elim
    · exact hS.no.elim

def isEff : Op → Bool
  | .store _ _ _ => true
  | .alloc _ => true
  | .box _ _ => true
  | .buildSlice _ _ _ => true
  | .makeSlice _ _ _ => true
  | .call { callee := .builtin .append, .. } => true
  | .call { callee := .value _, .. } => true
  | .panic _ => true
  | _ => false

def effOp (P : Program) (E : Env) (o : Oper) (s : St) (K : List Nat → SV → St → Prop) : Prop :=
  match o.op with
  | .store T x v => stOp P o T x v s (K (tcOf s o))
  | .alloc T => alOp P o T s (K (tcOf s o))
  | .box T x => bxOp o T x s (K (tcOf s o))
  | .buildSlice t n parts => bsOp P o t n parts s (K (tcOf s o))
  | .makeSlice t x y => mkOp P o t x y s (K (tcOf s o))
  | .call { callee := .builtin .append, args, argTypes } => match args.toList, argTypes.toList with
    | [x, y], [t, t'] => match Nat.beq t t' with
      | true => apOp P o t x y s (K (tcOf s o))
      | false => Bad o
    | _, _ => Bad o
  | .call { callee := .value g, args, .. } => match ev s.fr g with
    | .f (.func f) first cap => forceL (first ++ evs s.fr args.toList ++ cap) fun xs => CallVC P E f xs s K
    | _ => Bad o
  | .panic x => match ev s.fr x with
    | .v (.iface t u) => E.Pan (.iface t u) s.H s.G
    | _ => Bad o
  | _ => Bad o

theorem cl_ok {P : Program} {o : Oper} {g : Operand} {args : Array Operand} {ts : Array TypeId} (ho : o.op = .call { callee := .value g, args := args, argTypes := ts }) {s : St} {f : FuncId} {first cap : List SV}
    (hg : ev s.fr g = .f (.func f) first cap) {K : List Nat → SV → St → Prop} {next : Act → World → Prop} {Q : Exit → Act → World → Prop} {a : Act}
    (hK : ∀ T sv s', K T sv s' → ∀ ρ' v w', Ag E ρ' s'.H s'.G w' → Rvs ρ' s'.fr a.tmps.toList → Rv ρ' sv v → Fp ρ ρ' s.G s'.G T w w' → next (a.put o.dst v) w')
    (hP : ∀ x H' G' ρ' w', E.Pan x H' G' → Ag E ρ' H' G' w' → Q (.panic [{ v := x, recovered := false }]) a w')
    (hS : CallVC P E f (first ++ evs s.fr args.toList ++ cap) s K) (hA : Ag E ρ s.H s.G w) (hF : Rvs ρ s.fr a.tmps.toList) : o.wp P a w next Q := by
  have hgv := ev_ok hF g
  rw [hg] at hgv
  simp only [Rv] at hgv
  obtain ⟨a', c', hv, h1, h2⟩ := hgv
  have hargs : Rvs ρ (first ++ evs s.fr args.toList ++ cap) (a'.toList ++ args.toList.map a.eval ++ c'.toList) := (h1.append (evs_ok hF args.toList)).append h2
  have hrun : (execOp a.eval o).run P w = .ok (.enter f (a' ++ args.map a.eval ++ c')) w := by
    simp only [execOp, ho, resolve, hv, Deferred.ofValue, Sem.run_bind, Sem.run_pure, Result.andThen_ok, invoke]
    exact hS.enters _ _
  unfold Oper.wp
  rw [hrun, Oper.upon_enter]
  have hc := hS.calls ρ w _ hA hargs
  have he : (a'.toList ++ args.toList.map a.eval ++ c'.toList).toArray = a' ++ args.map a.eval ++ c' := by simp
  rw [he] at hc
  refine hc.mono fun e w' hh => ?_
  rcases hh with ⟨v, T, sv, s', ρ', rfl, hk, hA', hr, hfr, hfp⟩ | ⟨x, H', G', ρ', rfl, hp, hA'⟩
  · exact hK T sv s' hk ρ' v w' hA' (hfr _ hF) hr hfp
  · exact hP x H' G' ρ' w' hp hA'

theorem eff_ok {P : Program} {o : Oper} {s : St} {K : List Nat → SV → St → Prop} {next : Act → World → Prop} {Q : Exit → Act → World → Prop} {a : Act}
    (hK : ∀ T sv s', K T sv s' → ∀ ρ' v w', Ag E ρ' s'.H s'.G w' → Rvs ρ' s'.fr a.tmps.toList → Rv ρ' sv v → Fp ρ ρ' s.G s'.G T w w' → next (a.put o.dst v) w')
    (hP : ∀ x H' G' ρ' w', E.Pan x H' G' → Ag E ρ' H' G' w' → Q (.panic [{ v := x, recovered := false }]) a w')
    (hS : effOp P E o s K) (hA : Ag E ρ s.H s.G w) (hF : Rvs ρ s.fr a.tmps.toList) : o.wp P a w next Q := by
  unfold effOp at hS
  split at hS
  · rename_i ho; exact st_ok ho s _ next Q a ρ w (hK _) hS hA hF
  · rename_i ho; exact al_ok ho s _ next Q a ρ w (hK _) hS hA hF
  · rename_i ho; exact bx_ok ho s _ next Q a ρ w (hK _) hS hA hF
  · rename_i ho; exact bs_ok ho s _ next Q a ρ w (hK _) hS hA hF
  · rename_i ho; exact mk_ok ho s _ next Q a ρ w (hK _) hS hA hF
  · rename_i args ts ho
    split at hS
    case h_2 => exact hS.no.elim
    rename_i x y t t' hargs hts
    split at hS
    · rename_i ht
      have ht' := Nat.eq_of_beq_eq_true ht
      subst ht'
      rw [two hargs, two hts] at ho
      exact ap_ok ho s _ next Q a ρ w (hK _) hS hA hF
    · exact hS.no.elim
  · rename_i g args ts ho
    split at hS
    · rename_i f first cap hg
      rw [forceL_eq] at hS
      exact cl_ok ho hg hK hP hS hA hF
    · exact hS.no.elim
  · rename_i x ho
    split at hS
    · rename_i t u hx
      have hxv := ev_ok hF x
      rw [hx] at hxv
      simp only [Rv] at hxv
      have hrun : (execOp a.eval o).run P w = .halt (.panic (.iface t u)) w := by
        simp [execOp, ho, hxv, Instr.panic, goPanic]
      unfold Oper.wp
      rw [hrun, Oper.upon_panic]
      exact hP _ _ _ ρ w hS hA
    · exact hS.no.elim
  · exact hS.no.elim

def putS (d : Option Tmp) (v : SV) (s : St) (k : St → Prop) : Prop :=
  match d with
  | some t => s.un fun fr H G => forceSp (fr.set t v) fun fr' => k ⟨fr', H, G⟩
  | none => k s

theorem putS_ok {d : Option Tmp} {sv : SV} {s : St} {k : St → Prop} (h : putS d sv s k) {a : Act} {v : Value} (hF : Rvs ρ s.fr a.tmps.toList) (hv : Rv ρ sv v) :
    ∃ s', k s' ∧ s'.H = s.H ∧ s'.G = s.G ∧ Rvs ρ s'.fr (a.put d v).tmps.toList := by
  unfold putS at h
  cases d with
  | none => exact ⟨s, h, rfl, rfl, hF⟩
  | some t =>
    simp only [St.un_eq, forceSp_eq] at h
    refine ⟨_, h, rfl, rfl, ?_⟩
    simp only [Act.put, Array.toList_setIfInBounds]
    exact Rvs.set_ hv hF

def sxGuard (all : List Oper) (o : Oper) (s : St) (ex sk : St → Prop) : Prop :=
  match o.guard with
  | none => ex s
  | some (j, want) => match nth all j with
    | some oj => match oj.dst with
      | some t => match nth s.fr t with
        | some (.lit true) => match want with
          | true => ex s
          | false => sk s
        | some (.lit false) => match want with
          | true => sk s
          | false => ex s
        | some (.v (.bool b)) => br b
          (s.un fun fr H G => forceSp (fr.set t (.lit true)) fun fr' => match want with
            | true => ex ⟨fr', H, G⟩
            | false => sk ⟨fr', H, G⟩)
          (s.un fun fr H G => forceSp (fr.set t (.lit false)) fun fr' => match want with
            | true => sk ⟨fr', H, G⟩
            | false => ex ⟨fr', H, G⟩)
        | some (.v (.tuple _)) => sk s
        | _ => Bad o
      | none => Bad o
    | none => Bad o

theorem set_lit {fr : List SV} {ys : List Value} {t : Nat} {b : Bool} (hF : Rvs ρ fr ys) (hy : ys[t]? = some (.bool b)) : Rvs ρ (fr.set t (.lit b)) ys := by
  have h := Rvs.set_ (ρ := ρ) (x := .lit b) (y := .bool b) (by simp [Rv]) (k := t) hF
  have he : ys.set t (.bool b) = ys := by
    apply List.ext_getElem?
    intro k
    by_cases hk : t = k
    · subst hk
      rw [List.getElem?_set_self (by rw [List.getElem?_eq_some_iff] at hy; exact hy.1), hy]
    · rw [List.getElem?_set_ne hk]
  rwa [he] at h

theorem guard_ok {all : List Oper} {o : Oper} {s : St} {ex sk : St → Prop} (h : sxGuard all o s ex sk) {a : Act} (hF : Rvs ρ s.fr a.tmps.toList) :
    ∃ s', s'.H = s.H ∧ s'.G = s.G ∧ Rvs ρ s'.fr a.tmps.toList ∧
      ((Region.wanted o (yielded all.toArray a.tmps) = true ∧ ex s') ∨ (Region.wanted o (yielded all.toArray a.tmps) = false ∧ sk s')) := by
  unfold sxGuard at h
  split at h
  · rename_i hg; exact ⟨s, rfl, rfl, hF, .inl ⟨by simp [Region.wanted, hg], h⟩⟩
  · rename_i j want hg
    split at h
    case h_2 => exact h.no.elim
    rename_i oj hj
    split at h
    case h_2 => exact h.no.elim
    rename_i t ht
    simp only [nth_eq] at hj h
    have hy : ∀ {y : Value}, a.tmps.toList[t]? = some y → yielded all.toArray a.tmps j = match y with | .bool b => some b | _ => none := by
      intro y hy
      rw [Array.getElem?_toList] at hy
      simp [yielded, hj, ht, hy]
      cases y <;> rfl
    split at h
    · rename_i hs
      obtain ⟨y, hyt, hr⟩ := hF.get hs
      simp only [Rv] at hr; subst hr
      have hyy := hy hyt
      split at h
      · exact ⟨s, rfl, rfl, hF, .inl ⟨by simp [Region.wanted, hg, hyy], h⟩⟩
      · exact ⟨s, rfl, rfl, hF, .inr ⟨by simp [Region.wanted, hg, hyy], h⟩⟩
    · rename_i hs
      obtain ⟨y, hyt, hr⟩ := hF.get hs
      simp only [Rv] at hr; subst hr
      have hyy := hy hyt
      split at h
      · exact ⟨s, rfl, rfl, hF, .inr ⟨by simp [Region.wanted, hg, hyy], h⟩⟩
      · exact ⟨s, rfl, rfl, hF, .inl ⟨by simp [Region.wanted, hg, hyy], h⟩⟩
    · rename_i b hs
      obtain ⟨y, hyt, hr⟩ := hF.get hs
      simp only [Rv] at hr; subst hr
      have hyy := hy hyt
      have hb := br_ok h
      cases b
      · simp only [Bool.false_eq_true, if_false, St.un_eq, forceSp_eq] at hb
        split at hb
        · exact ⟨⟨s.fr.set t (.lit false), s.H, s.G⟩, rfl, rfl, set_lit hF hyt, .inr ⟨by simp [Region.wanted, hg, hyy], hb⟩⟩
        · exact ⟨⟨s.fr.set t (.lit false), s.H, s.G⟩, rfl, rfl, set_lit hF hyt, .inl ⟨by simp [Region.wanted, hg, hyy], hb⟩⟩
      · simp only [if_true, St.un_eq, forceSp_eq] at hb
        split at hb
        · exact ⟨⟨s.fr.set t (.lit true), s.H, s.G⟩, rfl, rfl, set_lit hF hyt, .inl ⟨by simp [Region.wanted, hg, hyy], hb⟩⟩
        · exact ⟨⟨s.fr.set t (.lit true), s.H, s.G⟩, rfl, rfl, set_lit hF hyt, .inr ⟨by simp [Region.wanted, hg, hyy], hb⟩⟩
    · rename_i ys hs
      obtain ⟨y, hyt, hr⟩ := hF.get hs
      simp only [Rv] at hr; subst hr
      have hyy := hy hyt
      exact ⟨s, rfl, rfl, hF, .inr ⟨by simp [Region.wanted, hg, hyy], h⟩⟩
    · exact h.no.elim

/-! ### a store into a block of which all is known and which is new: what is known of it changes -/
def putG (G : Gh) (b : Nat) (o : Obj) : Gh := fun b' => if b' = b then some o else G b'
def thPtr (s : St) (o : Oper) : Option (TypeId × Addr × SV) := match o.op with
  | .store T x v => match ev s.fr x with
    | .v (.pointer (some ad)) => some (T, ad, ev s.fr v)
    | _ => none
  | _ => none
def thOp (P : Program) (E : Env) (o : Oper) (T : TypeId) (ad : Addr) (v : SV) (s : St) (K : St → Prop) : Prop :=
  match szOf P T, v with
  | some n, .v u => match Nat.beq n 1 with
    | true => ∃ (cs : Array Value) (T' : TypeId), s.G ad.block = some (.cells cs T' (0, 0)) ∧ E.G0 ad.block = none ∧ ad.spot = none ∧ ad.off < cs.size ∧ u.oneCell' = true ∧
        K ⟨s.fr, s.H, putG s.G ad.block (.cells (cs.toList.set ad.off u).toArray T' (0, 0))⟩
    | false => Bad o
  | _, _ => Bad o
theorem th_ok {P : Program} {o : Oper} {s : St} {T : TypeId} {ad : Addr} {v : SV} (hp : thPtr s o = some (T, ad, v)) {K : St → Prop} {next : Act → World → Prop} {Q : Exit → Act → World → Prop} {a : Act}
    (hK : ∀ s', K s' → ∀ w', Ag E ρ s'.H s'.G w' → Rvs ρ s'.fr a.tmps.toList → next (a.put o.dst undef) w') (hS : thOp P E o T ad v s K) (hA : Ag E ρ s.H s.G w) (hF : Rvs ρ s.fr a.tmps.toList) : o.wp P a w next Q := by
  unfold thPtr at hp
  split at hp
  case h_2 => cases hp
  rename_i T0 x v0 ho
  split at hp
  case h_2 => cases hp
  rename_i ad0 hx0
  simp only [Option.some.injEq, Prod.mk.injEq] at hp
  obtain ⟨rfl, rfl, rfl⟩ := hp
  have hx := ev_ok hF x
  have hv := ev_ok hF v0
  rw [hx0] at hx
  simp only [Rv] at hx
  unfold thOp at hS
  split at hS
  case h_2 => exact hS.no.elim
  rename_i n u hsz hu
  rw [hu] at hv
  simp only [Rv] at hv
  split at hS
  case h_2 => exact hS.no.elim
  rename_i hn
  have hn1 := Nat.eq_of_beq_eq_true hn
  subst hn1
  obtain ⟨cs, T', hG, h0, hsp, hoff, h1, hkk⟩ := hS
  obtain ⟨b, off, spot⟩ := ad0
  dsimp only at hG h0 hsp hoff hkk
  subst hsp
  have hc := hA.ext _ _ hG
  have hcell : u.cells.toList = [u] := by rw [cells_of_one h1]
  have hrun := run_storeAt (w := w) (n := 1) (off := off) (v := u) hsz (by rw [hcell]; rfl) hc (by omega) (by rw [hcell]; intro y hy; simp at hy; subst hy; exact h1)
  rw [hcell] at hrun
  have hset : cs.toList.take off ++ [u] ++ cs.toList.drop (off + 1) = cs.toList.set off u := by
    rw [List.set_eq_take_append_cons_drop, if_pos (by simpa using hoff)]; simp
  rw [hset] at hrun
  have hex : (execOp a.eval o).run P w = .ok .skip (w.setRow b (cs.toList.set off u).toArray) := by
    simp only [execOp, ho, hx, hv, Sem.run_bind, hrun, Result.andThen_ok, Sem.run_pure]
  refine wp_skip' hex (hK _ hkk _ ?_ hF)
  have hsr := setRow_heap w b cs (cs.toList.set off u).toArray T' (0, 0) hc
  have hoth : ∀ k, k ≠ b → (w.setRow b (cs.toList.set off u).toArray).heap[k]? = w.heap[k]? := fun k hk => setRow_other w b k _ hk
  have hgr := grown_setRow w b (cs.toList.set off u).toArray
  have hnew : E.w0.heap.size ≤ b ∨ E.F b := by
    rcases hA.gnew b _ hG with h9 | h9
    · rw [h0] at h9; cases h9
    · exact h9
  have hne : ∀ (i : Nat) x k, ρ[i]? = some x → blkOf x = some k → k ≠ b := fun i x k hx hk e => by
    have := (hA.own i x k hx hk).2.1
    rw [e, hG] at this; cases this
  refine ⟨hA.len, fun i ob x hob hx => (hA.obs i ob x hob hx).mono fun k hk => hoth k (hne i x k hx hk), hA.apart, fun i x k hx hk => ?_, fun k o hk => ?_, fun k hk hkF => ?_, ?_, ?_, ?_, ?_, hA.old, fun k o hk => ?_, fun k o hk => ?_⟩
  · obtain ⟨h4, h5, h6⟩ := hA.own i x k hx hk
    refine ⟨by simpa [World.setRow] using h4, ?_, h6⟩
    show putG s.G b _ k = none
    unfold putG
    rw [if_neg (hne i x k hx hk)]; exact h5
  · replace hk : putG s.G b (.cells (cs.toList.set off u).toArray T' (0, 0)) k = some o := hk
    unfold putG at hk
    split at hk
    · rename_i e; subst e; cases hk; exact hsr
    · rename_i e; rw [hoth k e]; exact hA.ext k o hk
  · have : k ≠ b := fun e => by
      rw [e] at hk hkF
      rcases hnew with h9 | h9
      · omega
      · exact hkF h9
    rw [hoth k this]; exact hA.frame k hk hkF
  · simpa [World.setRow] using hA.size
  · exact hA.os
  · exact hA.tape
  · exact hA.output
  · show putG s.G b _ k = some o
    unfold putG
    rw [if_neg (fun e => by subst e; rw [h0] at hk; cases hk)]
    exact hA.gold k o hk
  · replace hk : putG s.G b (.cells (cs.toList.set off u).toArray T' (0, 0)) k = some o := hk
    unfold putG at hk
    split at hk
    · rename_i e; subst e; exact .inr hnew
    · exact hA.gnew k o hk

/-- What is kept throughout: what is deferred, and some slots. -/
def Env.Kp (E : Env) (a : Act) : Prop := a.defers = E.D ∧ ∀ q ∈ E.W, a.tmps[q.1]? = some q.2
def Env.dOk (E : Env) (d : Option Tmp) : Prop := ∀ q ∈ E.W, d ≠ some q.1
theorem Env.Kp.put {E : Env} {a : Act} (h : E.Kp a) {d : Option Tmp} (hd : E.dOk d) (v : Value) : E.Kp (a.put d v) := by
  refine ⟨by cases d <;> exact h.1, fun q hq => ?_⟩
  cases d with
  | none => exact h.2 q hq
  | some t =>
    have hne : t ≠ q.1 := fun e => hd q hq (by rw [e])
    show (a.tmps.setIfInBounds t v)[q.1]? = _
    rw [Array.getElem?_setIfInBounds_ne hne]
    exact h.2 q hq
theorem Env.dOk_nil {E : Env} (h : E.W = []) (d : Option Tmp) : E.dOk d := fun q hq => by rw [h] at hq; simp at hq
/-- Operations one behind the other. -/
def sxOps (P : Program) (E : Env) (all : List Oper) : List Oper → (St → Prop) → St → Prop
  | [], K, s => K s
  | o :: r, K, s => sxGuard all o s
    (fun s => match isEff o.op with
      | true => match thPtr s o with
        | some (T, ad, v) => thOp P E o T ad v s fun s' => putS o.dst (.v undef) s' (sxOps P E all r K)
        | none => effOp P E o s fun _ v s' => putS o.dst v s' (sxOps P E all r K)
      | false => quOp P o s fun v => putS o.dst v s (sxOps P E all r K))
    (fun s => putS o.dst (.v undef) s (sxOps P E all r K))

theorem sxOps_ok {P : Program} {all : List Oper} {Q : Exit → Act → World → Prop} : ∀ (l : List Oper) {K : St → Prop} {s : St} {a : Act} {w : World} {ρ : List Value},
    (∀ s', K s' → ∀ ρ' a' w', Ag E ρ' s'.H s'.G w' → Rvs ρ' s'.fr a'.tmps.toList → E.Kp a' → Q .normal a' w') →
    (∀ x H' G', E.Pan x H' G' → ∀ ρ' a' w', Ag E ρ' H' G' w' → E.Kp a' → Q (.panic [{ v := x, recovered := false }]) a' w') →
    sxOps P E all l K s → Ag E ρ s.H s.G w → Rvs ρ s.fr a.tmps.toList → E.Kp a → (∀ o ∈ l, E.dOk o.dst) → wpList P all.toArray Q l a w
  | [], K, s, a, w, ρ, hK, hP, hS, hA, hF, hd, _ => hK s hS ρ a w hA hF hd
  | o :: r, K, s, a, w, ρ, hK, hP, hS, hA, hF, hd, hw0 => by
    simp only [sxOps] at hS
    have hd' : ∀ v, E.Kp (a.put o.dst v) := fun v => hd.put (hw0 o (by simp)) v
    replace hw0 : ∀ o ∈ r, E.dOk o.dst := fun o' ho' => hw0 o' (by simp [ho'])
    obtain ⟨s1, h1, h2, h3, hw⟩ := guard_ok hS hF
    rw [← h1, ← h2] at hA
    unfold wpList
    rcases hw with ⟨hw, hx⟩ | ⟨hw, hx⟩
    · rw [if_pos hw]
      refine .inl ?_
      split at hx
      · split at hx
        · rename_i T ad v hp
          refine th_ok (ρ := ρ) hp (fun s' hk w' hA' hF' => ?_) hx hA h3
          obtain ⟨s2, hk2, e1, e2, hF2⟩ := putS_ok hk hF' (v := undef) (by simp [Rv])
          exact sxOps_ok r hK hP hk2 (by rw [e1, e2]; exact hA') hF2 (hd' _) hw0
        refine eff_ok (ρ := ρ) (fun T sv s' hk ρ' v w' hA' hF' hr hfp => ?_) (fun x H' G' ρ' w' hp hA' => hP x H' G' hp ρ' a w' hA' hd) hx hA h3
        obtain ⟨s2, hk2, e1, e2, hF2⟩ := putS_ok hk hF' hr
        exact sxOps_ok r hK hP hk2 (by rw [e1, e2]; exact hA') hF2 (hd' v) hw0
      · obtain ⟨v, sv, hk, hr, hrun⟩ := qu_ok _ a ρ w hx hA h3
        obtain ⟨s2, hk2, e1, e2, hF2⟩ := putS_ok hk h3 hr
        exact wp_value (hrun w (Agr.refl _ _ _ _)) (sxOps_ok r hK hP hk2 (by rw [e1, e2]; exact hA) hF2 (hd' v) hw0)
    · rw [if_neg (by simp [hw])]
      obtain ⟨s2, hk2, e1, e2, hF2⟩ := putS_ok hx h3 (v := undef) (by simp [Rv])
      exact sxOps_ok r hK hP hk2 (by rw [e1, e2]; exact hA) hF2 (hd' _) hw0
end
end Go.SX
