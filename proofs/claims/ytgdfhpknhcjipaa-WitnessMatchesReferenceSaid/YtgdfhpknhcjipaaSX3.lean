/- A symbolic walk: stores, new objects, and what only computes. -/
import Derived.Test.YtgdfhpknhcjipaaSX2
namespace Go.SX
section
variable {E : Env} {ρ : List Value} {H : List Ob} {G : Gh} {w : World}

def forceNat : Nat → (Nat → Prop) → Prop
  | 0, k => k 0
  | n + 1, k => forceNat n fun m => k (m + 1)
theorem forceNat_eq : ∀ (n : Nat) (k : Nat → Prop), forceNat n k = k n
  | 0, _ => rfl
  | n + 1, k => by simp [forceNat, forceNat_eq n]

theorem grown_setRow (w : World) (g : Nat) (cs : Array Value) : w.grownBy (w.setRow g cs) (some g) :=
  ⟨rfl, rfl, rfl, by simp [World.setRow], fun k _ hk => setRow_other w g k cs (fun e => hk (by rw [e]))⟩

/-! ### stores -/
def stInto (o : Oper) (mk : List SV → Ob) (xs ys : List SV) (i off n : Nat) (s : St) (K : SV → St → Prop) : Prop :=
  match Nat.ble (off + n) xs.length with
  | true => forceL (xs.take off ++ ys ++ xs.drop (off + n)) fun zs => s.un fun fr H G => forceSp (H.set i (mk zs)) fun H' => K (.v undef) ⟨fr, H', G⟩
  | false => Bad o
def stOp (P : Program) (o : Oper) (T : TypeId) (x v : Operand) (s : St) (K : SV → St → Prop) : Prop :=
  match szOf P T, ev s.fr x, cellsOf (ev s.fr v) with
  | some n, .p i off, some ys => match Nat.beq ys.length n, allOne ys with
    | true, true => match nth s.H i with
      | some (.cells T' xs) => stInto o (.cells T') xs ys i off n s K
      | some (.lit T' m xs) => stInto o (.lit T' m) xs ys i off n s K
      | some (.row e sz m xs) => match ys with
        | [.v u] => off < xs.length ∧ s.un fun fr H G => forceSp (H.set i (.row e sz m (xs.set off u))) fun H' => K (.v undef) ⟨fr, H', G⟩
        | _ => Bad o
      | _ => Bad o
    | _, _ => Bad o
  | _, _, _ => Bad o

theorem run_storeAt {P : Program} {T : TypeId} {n b off : Nat} {v : Value} {cs : Array Value} {T' : TypeId} (hs : szOf P T = some n) (hn : v.cells.toList.length = n)
    (hc : w.heap[b]? = some (.cells cs T' (0, 0))) (hl : off + n ≤ cs.size) (h1 : ∀ u ∈ v.cells.toList, u.oneCell' = true) :
    (Instr.storeAt T (.pointer (some ⟨b, off, none⟩)) v).run P w = .ok () (w.setRow b (cs.toList.take off ++ v.cells.toList ++ cs.toList.drop (off + n)).toArray) := by
  have hst := run_storeCells_at P b off T' v.cells.toList 0 cs w hc (by omega) h1
  simp only [Nat.add_zero, hn] at hst
  have hsz : v.cells.size = n := by simpa using hn
  simp [Instr.storeAt, Instr.sureAddr, storeVar, run_sizeOf' hs, hsz, hst]

theorem st_ok {P : Program} {o : Oper} {T : TypeId} {x v : Operand} (ho : o.op = .store T x v) (s : St) : Ok P E o s (stOp P o T x v s) := by
  intro K next Q a ρ w hK hS hA hF
  have hx := ev_ok hF x
  have hv := ev_ok hF v
  unfold stOp at hS
  split at hS
  case h_2 => exact hS.no.elim
  rename_i n i off ys h1 h2 h3
  rw [h2] at hx
  simp only [Rv] at hx
  obtain ⟨z, b, hz, hb, hp⟩ := hx
  have hys := cellsOf_ok hA hv h3
  split at hS
  case h_2 => exact hS.no.elim
  rename_i hlen hone
  have hlen' : ys.length = n := Nat.eq_of_beq_eq_true hlen
  have hn : (a.eval v).cells.toList.length = n := by rw [hys.length, hlen']
  have h1c := allOne_ok hA hys hone
  have into : ∀ {xs : List SV} {cs : Array Value} {T' : TypeId} {mk : List SV → Ob}, w.heap[b]? = some (.cells cs T' (0, 0)) → Rvs ρ xs cs.toList →
      (∀ (w' : World) (zs : List SV) (cs' : Array Value), w'.heap[b]? = some (.cells cs' T' (0, 0)) → Rvs ρ zs cs'.toList → ObOK ρ w' (mk zs) z) →
      stInto o mk xs ys i off n s K → o.wp P a w next Q := by
    intro xs cs T' mk hc hr hmk hst
    unfold stInto at hst
    split at hst
    case h_2 => exact hst.no.elim
    rename_i hle
    rw [forceL_eq, St.un_eq, forceSp_eq] at hst
    have hle' := Nat.le_of_ble_eq_true hle
    have hcs : cs.toList.length = xs.length := hr.length
    have hcs' : cs.size = xs.length := by simpa using hcs
    have hrun := run_storeAt (w := w) (n := n) (off := off) (v := a.eval v) h1 hn hc (by omega) h1c
    have hex : (execOp a.eval o).run P w = .ok .skip (w.setRow b (cs.toList.take off ++ (a.eval v).cells.toList ++ cs.toList.drop (off + n)).toArray) := by
      simp only [execOp, ho, hp, Sem.run_bind, hrun, Result.andThen_ok, Sem.run_pure]
    refine wp_skip' hex ?_
    have htc : tcOf s o = [i] := by simp [tcOf, ho, h2]
    refine hK _ _ hst ρ _ _ (hA.store hz (by rw [base_blk hb]; exact grown_setRow w b _) ?_) hF (by simp [Rv]) (Fp.grown (grown_setRow w b _) fun b' hb' => ⟨i, by simp [htc], z, hz, by rw [base_blk hb]; exact hb'⟩)
    refine hmk _ _ _ (setRow_heap w b cs _ T' (0, 0) hc) ?_
    simpa using ((hr.take_ off).append hys).append (hr.drop_ (off + n))
  simp only [nth_eq] at hS
  split at hS
  · rename_i T' xs hH
    obtain ⟨cs, hc, hr⟩ := hA.cellsAt hz hb hH
    have hob := hA.obs i _ z hH hz
    refine into hc hr (fun w' zs cs' h1' h2' => ?_) hS
    simp only [ObOK] at hob ⊢
    obtain ⟨b', cs0, rfl, _, _⟩ := hob
    simp [base] at hb; subst hb
    exact ⟨b', cs', rfl, h1', h2'⟩
  · rename_i T' m xs hH
    obtain ⟨cs, hc, hr⟩ := hA.litAt hz hb hH
    have hob := hA.obs i _ z hH hz
    refine into hc hr (fun w' zs cs' h1' h2' => ?_) hS
    simp only [ObOK] at hob ⊢
    obtain ⟨b', cs0, rfl, _, _⟩ := hob
    simp [base] at hb; subst hb
    exact ⟨b', cs', rfl, h1', h2'⟩
  · rename_i e sz m xs hH
    split at hS
    case h_2 => exact hS.no.elim
    rename_i ys0 u
    obtain ⟨hoff, hk⟩ := hS
    rw [St.un_eq, forceSp_eq] at hk
    have hob := hA.obs i _ z hH hz
    simp only [ObOK] at hob
    have hcu : (a.eval v).cells.toList = [u] := by
      exact (Rvs.vs_ (ρ := ρ) (xs := [u]) (by simpa [vs] using hys))
    have hn1 : n = 1 := by rw [← hlen']; rfl
    rcases hob.2 with ⟨rfl, _⟩ | ⟨g, cap, cur, rfl, hg0, hg, hnc, hcm, hcs, htake⟩
    · simp [base] at hb
    · simp [base] at hb; subst hb
      have hxl := hob.1
      have hle : m * sz ≤ cap * sz := Nat.mul_le_mul_right _ hnc
      have hrun := run_storeAt (w := w) (n := n) (off := off) (v := a.eval v) h1 hn hg (by omega) h1c
      have hex : (execOp a.eval o).run P w = .ok .skip (w.setRow g (cur.toList.take off ++ (a.eval v).cells.toList ++ cur.toList.drop (off + n)).toArray) := by
        simp only [execOp, ho, hp, Sem.run_bind, hrun, Result.andThen_ok, Sem.run_pure]
      refine wp_skip' hex ?_
      have htc : tcOf s o = [i] := by simp [tcOf, ho, h2]
      refine hK _ _ hk ρ _ _ (hA.store hz (by exact grown_setRow w g _) ?_) hF (by simp [Rv]) (Fp.grown (grown_setRow w g _) fun b' hb' => ⟨i, by simp [htc], _, hz, by exact hb'⟩)
      simp only [ObOK]
      refine ⟨by simp [hxl], .inr ⟨g, cap, _, rfl, hg0, setRow_heap w g cur _ e (0, 0) hg, hnc, hcm, ?_, ?_⟩⟩
      · rw [hcu, hn1]; simp; omega
      · rw [hcu, hn1]
        have : cur.toList.take off ++ [u] ++ cur.toList.drop (off + 1) = cur.toList.set off u := by
          rw [List.set_eq_take_append_cons_drop, if_pos (by simp; omega)]; simp
        simp only [this]
        rw [← htake, List.take_set]
  · exact hS.no.elim

/-! ### new objects -/
def zeroOf (P : Program) (t : TypeId) : Option Value :=
  match P.info? t with
  | some i => i.zero
  | none => none
theorem run_zero' {P : Program} {t : TypeId} {z : Value} (h : zeroOf P t = some z) (w : World) : (zeroValue t).run P w = .ok z w := by
  unfold zeroOf at h
  cases hu : P.info? t with
  | none => simp [hu] at h
  | some i => rw [hu] at h; simp at h; simp [zeroValue, typeInfo, hu, h]

def pushOb (s : St) (ob : Ob) (v : Nat → SV) (K : SV → St → Prop) : Prop :=
  s.un fun fr H G => litN H.length fun n => forceSp (H ++ [ob]) fun H' => K (v n) ⟨fr, H', G⟩
def alOp (P : Program) (o : Oper) (T : TypeId) (s : St) (K : SV → St → Prop) : Prop :=
  match zeroOf P T with
  | some z => forceL (vs z.cells.toList) fun zs => pushOb s (.cells T zs) (fun n => .p n 0) K
  | none => Bad o
def bxOp (o : Oper) (T : TypeId) (x : Operand) (s : St) (K : SV → St → Prop) : Prop :=
  match cellsOf (ev s.fr x) with
  | some xs => forceL xs fun zs => pushOb s (.cells T zs) (fun n => .p n 0) K
  | none => Bad o

theorem push_cells (hA : Ag E ρ H G w) {T : TypeId} {xs : List SV} {cs : Array Value} (hr : Rvs ρ xs cs.toList) :
    Ag E (ρ ++ [.pointer (some ⟨w.heap.size, 0, none⟩)]) (H ++ [.cells T xs]) G (w.alloc (.cells cs T)) := by
  refine hA.push (grown_alloc w _) (fun b hb => ?_) ?_
  · simp [blkOf] at hb; subst hb; simp
  · simp only [ObOK]
    exact ⟨_, cs, rfl, heap_alloc_new w _, hr.ext⟩
theorem pushed (hA : Ag E ρ H G w) {x : Value} {b : Nat} (hb : base x = some b) : Rv (ρ ++ [x]) (.p H.length 0) (.pointer (some ⟨b, 0, none⟩)) := by
  simp only [Rv]
  exact ⟨x, b, by rw [← hA.len]; simp, hb, rfl⟩

theorem al_ok {P : Program} {o : Oper} {T : TypeId} (ho : o.op = .alloc T) (s : St) : Ok P E o s (alOp P o T s) := by
  intro K next Q a ρ w hK hS hA hF
  unfold alOp at hS
  split at hS
  case h_2 => exact hS.no.elim
  rename_i z hz
  rw [forceL_eq] at hS
  unfold pushOb at hS
  rw [St.un_eq, litN_eq, forceSp_eq] at hS
  refine wp_value (w' := w.alloc (.cells z.cells T)) (v := .pointer (some ⟨w.heap.size, 0, none⟩)) (by simp [execOp, ho, Instr.alloc, run_zero' hz, newVar, newRow]) ?_
  exact hK _ _ hS _ _ _ (push_cells hA (Rvs.of_vs _)) hF.ext (pushed hA rfl) (Fp.push (grown_alloc w _))
theorem bx_ok {P : Program} {o : Oper} {T : TypeId} {x : Operand} (ho : o.op = .box T x) (s : St) : Ok P E o s (bxOp o T x s) := by
  intro K next Q a ρ w hK hS hA hF
  unfold bxOp at hS
  split at hS
  case h_2 => exact hS.no.elim
  rename_i xs hx
  rw [forceL_eq] at hS
  unfold pushOb at hS
  rw [St.un_eq, litN_eq, forceSp_eq] at hS
  refine wp_value (w' := w.alloc (.cells (a.eval x).cells T)) (v := .pointer (some ⟨w.heap.size, 0, none⟩)) (by simp [execOp, ho, Instr.box, newVar, newRow]) ?_
  exact hK _ _ hS _ _ _ (push_cells hA (cellsOf_ok hA (ev_ok hF x) hx)) hF.ext (pushed hA rfl) (Fp.push (grown_alloc w _))

/-! ### what only computes -/
def fldOf (P : Program) (S : TypeId) (f : Nat) : Option Field :=
  match P.underlying S with
  | some (.struct fs) => nth fs.toList f
  | _ => none
def pos (P : Program) (t : TypeId) : Bool := match szOf P t with | some (_ + 1) => true | _ => false

def intBin (op : BinOp) (k : IntKind) (x y : Int) : Option Value :=
  match op with
  | .add => some (.int k (k.wrap (x + y)))
  | .sub => some (.int k (k.wrap (x - y)))
  | .mul => some (.int k (k.wrap (x * y)))
  | .and => some (.int k (bits .and k x y))
  | .or => some (.int k (bits .or k x y))
  | .xor => some (.int k (bits .xor k x y))
  | .andNot => some (.int k (bits .andNot k x y))
  | .eql => some (.bool (x == y))
  | .neq => some (.bool (x != y))
  | .lss => some (.bool (x < y))
  | .leq => some (.bool (x ≤ y))
  | .gtr => some (.bool (x > y))
  | .geq => some (.bool (x ≥ y))
  | _ => none
def sameKind : IntKind → IntKind → Bool
  | .i8, .i8 | .i16, .i16 | .i32, .i32 | .i64, .i64 | .u8, .u8 | .u16, .u16 | .u32, .u32 | .u64, .u64 => true
  | _, _ => false
theorem sameKind_eq {k k' : IntKind} (h : sameKind k k' = true) : k = k' := by cases k <;> cases k' <;> simp_all [sameKind]

def eqV (P : Program) (t : TypeId) (x y : SV) : Option Bool :=
  match P.underlying t, x, y with
  | some .bool, .v (.bool a), .v (.bool b) => some (a == b)
  | some (.pointer _), .p _ _, .v (.pointer none) => some false
  | some (.pointer _), .v (.pointer a), .v (.pointer none) => some a.isNone
  | some (.slice _), .v (.slice a _ _), .v (.slice none _ _) => some a.isNone
  | some (.func _ _ _), .f (.func _) _ _, .v .nilFunc => some false
  | some (.func _ _ _), .v .nilFunc, .v .nilFunc => some true
  | _, _, _ => none

def isEq : BinOp → Option Bool
  | .eql => some true
  | .neq => some false
  | _ => none

def binV (P : Program) (op : BinOp) (t : TypeId) (x y : SV) : Option SV :=
  match x, y with
  | .v (.int k a), .v (.int k' b) => match sameKind k k', intBin op k a b with
    | true, some v => some (.v v)
    | _, _ => none
  | .v (.string a), .v (.string b) => match op with
    | .eql => some (.v (.bool (a.toList == b.toList)))
    | .neq => some (.v (.bool !(a.toList == b.toList)))
    | _ => none
  | x, y => match isEq op, eqV P t x y with
    | some true, some b => some (.v (.bool b))
    | some false, some b => some (.v (.bool !b))
    | _, _ => none

def convV (P : Program) (src dst : TypeId) (x : SV) : Option SV :=
  match P.underlying src, P.underlying dst, x with
  | some _, some (.int k), .v (.int _ n) => some (.v (.int k (k.wrap n)))
  | some _, some .string, .v (.string s) => some (.v (.string s))
  | _, _, _ => none

def fieldV (P : Program) (S : TypeId) (x : SV) (f : Nat) : Option SV :=
  match fldOf P S f, x with
  | some fd, .agg xs => match tyAgg P fd.type, szOf P fd.type with
    | some true, some n => some (.agg ((xs.drop fd.offset).take n))
    | some false, _ => nth xs fd.offset
    | _, _ => none
  | some fd, .v (.agg ys) => match tyAgg P fd.type, szOf P fd.type with
    | some true, some n => some (.agg (vs ((ys.toList.drop fd.offset).take n)))
    | some false, _ => match nth ys.toList fd.offset with
      | some y => some (.v y)
      | none => none
    | _, _ => none
  | _, _ => none

def lenV (H : List Ob) : SV → Option (Bool × Int)
  | .v (.slice _ n _) => some (false, n)
  | .v (.string s) => some (true, s.size)
  | .s i => match nth H i with
    | some (.row _ _ n _) => some (false, n)
    | some (.lit _ n _) => some (false, n)
    | _ => none
  | _ => none

def puOp (P : Program) (o : Oper) (s : St) : Option SV :=
  match o.op with
  | .move x => some (evr s.fr x)
  | .assign x => some (evr s.fr x)
  | .nilCheck x => match ev s.fr x with
    | .p i k => some (.p i k)
    | .v (.pointer (some a)) => some (.v (.pointer (some a)))
    | .f (.func g) a c => some (.f (.func g) a c)
    | _ => none
  | .fieldAddr S x f => match fldOf P S f, ev s.fr x with
    | some fd, .p i k => match pos P fd.type with
      | true => some (.p i (k + fd.offset))
      | false => none
    | some fd, .v (.pointer (some a)) => match pos P fd.type with
      | true => some (.v (.pointer (some (a.add fd.offset))))
      | false => none
    | _, _ => none
  | .unOp op _ x => match op, ev s.fr x with
    | .not, .v (.bool b) => some (.v (.bool !b))
    | .neg, .v (.int k n) => some (.v (.int k (k.wrap (0 - n))))
    | _, _ => none
  | .convert src dst x => convV P src dst (ev s.fr x)
  | .field S x f => fieldV P S (ev s.fr x) f
  | .extract t ix => match ev s.fr t with
    | .tup xs => nth xs ix
    | .v (.tuple ys) => match nth ys.toList ix with
      | some y => some (.v y)
      | none => none
    | _ => none
  | .makeFunc fn first cap => some (.f fn (evs s.fr first.toList) (evs s.fr cap.toList))
  | .binOp op t x y _ => binV P op t (ev s.fr x) (ev s.fr y)
  | .call { callee := .builtin .len, args, argTypes } => match args.toList, argTypes.toList with
    | [x], [t] => match P.underlying t, lenV s.H (ev s.fr x) with
      | some (.slice _), some (false, n) => some (.v (.int .i64 n))
      | some .string, some (true, n) => some (.v (.int .i64 n))
      | _, _ => none
    | _, _ => none
  | _ => none
end
end Go.SX
