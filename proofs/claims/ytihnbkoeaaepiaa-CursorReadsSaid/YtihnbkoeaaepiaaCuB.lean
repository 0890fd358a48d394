/- The law of the reads: what is written is read. -/
import Derived.Test.YtihnbkoeaaepiaaCuA
namespace Go.Proofs.Ytihnbkoeaaepiaa.Cu
open Go Go.SX Go.Proofs.Ytihnbkoeaaepiaa.VT
set_option maxRecDepth 100000
set_option linter.unusedVariables false
set_option linter.unusedSimpArgs false

def encN : Nat → List Int → List Int
  | _, [] => []
  | i, x :: xs => putB x.toNat ++ (((i % 256 : Nat) : Int) :: encN (i + 1) xs)
def encI : List Int → List Int
  | [] => []
  | y :: ys => putB (zig y).toNat ++ encI ys
theorem encN_take : ∀ (ns : List Int) (i k : Nat), k < ns.length → encN i (ns.take (k + 1)) = (encN i (ns.take k) ++ putB (ns.getD k 0).toNat) ++ [(((i + k) % 256 : Nat) : Int)]
  | x :: xs, i, 0, _ => by simp [encN]
  | x :: xs, i, k + 1, h => by
    have := encN_take xs (i + 1) k (by simpa using h)
    rw [List.take_succ_cons, List.take_succ_cons, encN, encN, this, show i + 1 + k = i + (k + 1) by omega]
    simp
theorem encI_take : ∀ (ys : List Int) (k : Nat), k < ys.length → encI (ys.take (k + 1)) = encI (ys.take k) ++ putB (zig (ys.getD k 0)).toNat
  | y :: ys, 0, _ => by simp [encI]
  | y :: ys, k + 1, h => by
    have := encI_take ys k (by simpa using h)
    rw [List.take_succ_cons, List.take_succ_cons, encI, encI, this]
    simp
theorem encN_len : ∀ (ns : List Int) (i : Nat), (encN i ns).length ≤ 11 * ns.length ∧ 2 * ns.length ≤ (encN i ns).length
  | [], _ => by simp [encN]
  | x :: xs, i => by
    have h := encN_len xs (i + 1)
    have h1 := putB_len x.toNat
    have h2 : 0 < (putB x.toNat).length := vput_len_pos 9 _
    simp only [encN, List.length_append, List.length_cons]
    omega
theorem encI_len : ∀ (ys : List Int), (encI ys).length ≤ 10 * ys.length
  | [] => by simp [encI]
  | y :: ys => by
    have h := encI_len ys
    have h1 := putB_len (zig y).toNat
    simp only [encI, List.length_append, List.length_cons]
    omega
theorem cUint_put {W rest : List Int} {a x : Nat} (hx : x < 18446744073709551616) (h : W.drop a = putB x ++ rest) : cUint W a 0 18446744073709551615 = ((x : Int), a + (putB x).length, 0) := by
  have hv : vdec 0 (W.drop a) = ((x : Int), ((putB x).length : Int), 0) := by rw [h]; exact vdec_put x hx rest
  have hw : whyU 18446744073709551615 ((x : Int), ((putB x).length : Int), 0) = 0 := if_neg (by simp; omega)
  unfold cUint
  rw [hv, if_neg (by decide), if_pos hw]
  simp
theorem cByte_put {W rest : List Int} {a : Nat} {x : Int} (h : W.drop a = x :: rest) : cByte W a 0 = (x, a + 1, 0) := by
  have hl : a < W.length := by
    rcases Nat.lt_or_ge a W.length with h1 | h1
    · exact h1
    · rw [List.drop_eq_nil_of_le h1] at h; simp at h
  rw [drop_at hl] at h
  injection h with h1 h2
  unfold cByte
  rw [if_neg (by decide), if_neg (by omega), h1]
theorem drop_more {W p rest : List Int} {a : Nat} (h : W.drop a = p ++ rest) : W.drop (a + p.length) = rest := by
  rw [← List.drop_drop, h]; simp
theorem drop_len {W rest : List Int} {a : Nat} (h : W.drop a = rest) (ha : a ≤ W.length) : a + rest.length = W.length := by rw [← h]; simp; omega
theorem putB_is (x : Nat) (hx : x < 18446744073709551616) : isB (putB x) := vput_byte 9 x (by simpa using hx)
theorem isB_app {l m : List Int} (h : isB l) (h2 : isB m) : isB (l ++ m) := fun x hx => by
  rcases List.mem_append.1 hx with hx | hx
  · exact h x hx
  · exact h2 x hx
theorem encN_is : ∀ (ns : List Int) (i : Nat), (∀ n ∈ ns, 0 ≤ n ∧ n < 18446744073709551616) → isB (encN i ns)
  | [], _, _ => fun x hx => by simp [encN] at hx
  | n :: ns, i, h => by
    have h1 := h n (by simp)
    refine isB_app (putB_is _ (by omega)) fun x hx => ?_
    rcases List.mem_cons.1 hx with rfl | hx
    · omega
    · exact encN_is ns (i + 1) (fun m hm => h m (by simp [hm])) x hx
theorem encI_is : ∀ (ys : List Int), (∀ y ∈ ys, -9223372036854775808 ≤ y ∧ y ≤ 9223372036854775807) → isB (encI ys)
  | [], _ => fun x hx => by simp [encI] at hx
  | y :: ys, h => by
    have h1 := h y (by simp)
    have h2 := zig_range y h1.1 h1.2
    exact isB_app (putB_is _ (by omega)) (encI_is ys fun m hm => h m (by simp [hm]))
/-- A slice of integers of a kind that nobody changes. -/
abbrev SlK (G : Gh) (k : IntKind) (A : Option Addr) (c : Nat) (l : List Int) : Prop := Sl G A l.length c 1 (l.map (.int k))
theorem SlK.to {G G' : Gh} {k : IntKind} {A : Option Addr} {c : Nat} {l : List Int} (h : SlK G k A c l) (hg : Ghe G G') : SlK G' k A c l :=
  ⟨h.len, h.cap, h.top, fun ad had j v hj => by
    have := h.there ad had j v hj
    unfold Gcell at this ⊢
    split at this <;> rename_i hx
    · rw [hg _ _ hx]; exact this
    · simp at this, h.nil, h.ones⟩
theorem elK {G : Gh} {ad : Addr} {k : IntKind} {l : List Int} {j : Nat} (h : Gat G ad (((l.map (Value.int k)).drop (j * 1)).take 1)) (hj : j < l.length) : Gcell G ad = some (.int k (l.getD j 0)) :=
  h 0 (.int k (l.getD j 0)) (by
    rw [List.getElem?_take, if_pos (by omega), List.getElem?_drop]
    simp [List.getElem?_eq_getElem hj])
theorem getD_all {l : List Int} {p : Int → Prop} (h : ∀ x ∈ l, p x) {i : Nat} (hi : i < l.length) : p (l.getD i 0) := by
  rw [List.getD_eq_getElem?_getD, List.getElem?_eq_getElem hi]; exact h _ (List.getElem_mem hi)
end Go.Proofs.Ytihnbkoeaaepiaa.Cu
