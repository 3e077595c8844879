/- The engine: worlds, blocks that are known, and the operations (own work). -/
import Derived.Test.YtmkpbbdocndfbaaEng
import Derived.Laws.CopyRow
import Derived.Laws.Slices
import Derived.Laws.Pointers
import Derived.WalkSpells
import Derived.RowKit
namespace Go.Proofs.Ytmkpbbdocndfbaa
open Go.RowKit

/-! ### What is known of types, functions -/
class TI (P : Program) (t : TypeId) (agg : outParam Bool) (size : outParam Nat) (zero : outParam Value) : Prop where
  isAgg : ∀ w, (isAgg t).run P w = .ok agg w
  sizeOf : ∀ w, (sizeOf t).run P w = .ok size w
  zero : ∀ w, (zeroValue t).run P w = .ok zero w
class FI (P : Program) (t : TypeId) (i : Nat) (off : outParam Nat) : Prop where
  run : ∀ a w, (Instr.fieldAt t (.pointer (some a)) i).run P w = .ok (.pointer (some (a.add off))) w
class SI (P : Program) (t : TypeId) (elem : outParam TypeId) (size : outParam Nat) : Prop where
  und : P.underlying t = some (.slice elem)
  sizeOf : ∀ w, (sizeOf elem).run P w = .ok size w
class PI (P : Program) (t : TypeId) : Prop where
  und : P.underlying t = some (.pointer (P.pointee t))
class CI (P : Program) (g : Nat) : Prop where
  run : ∀ args w, (callFunc g args).run P w = .ok (.enter g args) w
class VI (P : Program) (s t : TypeId) (k : outParam IntKind) : Prop where
  src : ∃ d, P.underlying s = some (.int d)
  dst : P.underlying t = some (.int k)
class BI (P : Program) (t : TypeId) (parts : List (Nat × Value)) (cells : outParam (List Value)) : Prop where
  run : ∀ w, (Instr.build t parts.toArray).run P w = .ok (.agg cells.toArray) w

/-! ### Worlds -/
/-- Outside D, what was there is as it was. -/
structure Ext (D : Nat → Prop) (w w' : World) : Prop where
  os : w'.os = w.os
  tape : w'.tape = w.tape
  output : w'.output = w.output
  size : w.heap.size ≤ w'.heap.size
  block : ∀ k, k < w.heap.size → ¬ D k → w'.heap[k]? = w.heap[k]?
abbrev No : Nat → Prop := fun _ => False
section
variable {D D' D1 D2 : Nat → Prop} {w w1 w2 : World}
theorem Ext.refl (D : Nat → Prop) (w : World) : Ext D w w := ⟨rfl, rfl, rfl, Nat.le_refl _, fun _ _ _ => rfl⟩
theorem Ext.mono (h : Ext D w w1) (hD : ∀ k, k < w.heap.size → D k → D' k) : Ext D' w w1 := ⟨h.os, h.tape, h.output, h.size, fun k hk hn => h.block k hk fun hd => hn (hD k hk hd)⟩
theorem Ext.no (h : Ext No w w1) : Ext D w w1 := h.mono fun _ _ hd => hd.elim
/-- Two steps: what the second one turns is D or new. -/
theorem Ext.then (h : Ext D w w1) (h2 : Ext D2 w1 w2) (hD : ∀ k, k < w.heap.size → D2 k → D k) : Ext D w w2 :=
  ⟨h2.os.trans h.os, h2.tape.trans h.tape, h2.output.trans h.output, Nat.le_trans h.size h2.size,
    fun k hk hn => (h2.block k (Nat.lt_of_lt_of_le hk h.size) fun hd => hn (hD k hk hd)).trans (h.block k hk hn)⟩
theorem Ext.trans (h : Ext D w w1) (h2 : Ext D w1 w2) : Ext D w w2 := h.then h2 fun _ _ h => h
theorem Ext.thenNo (h : Ext D w w1) (h2 : Ext No w1 w2) : Ext D w w2 := h.then h2 fun _ _ h => h.elim
theorem Ext.alloc (w : World) (o : Obj) : Ext D w (w.alloc o) := ⟨rfl, rfl, rfl, by simp, fun k hk _ => Below.heap_alloc w o k hk⟩
theorem Ext.drew (w : World) : Ext D w w.drew := ⟨rfl, rfl, rfl, Nat.le_refl _, fun _ _ _ => rfl⟩
theorem Ext.of_below (h : Below w.heap.size w w1) : Ext D w w1 := ⟨h.os, h.tape, h.output, h.size, fun k hk _ => h.block k hk⟩
theorem Ext.below (h : Ext No w w1) : Below w.heap.size w w1 := ⟨h.os, h.tape, h.output, h.size, fun k hk => h.block k hk id⟩
theorem Ext.of_grown {row : Option Nat} (h : w.grownBy w1 row) (hD : ∀ k, row = some k → D k) : Ext D w w1 := ⟨h.os, h.tape, h.output, h.size, fun k hk hn => h.block k hk fun e => hn (hD k e.symm)⟩
theorem setRow_at (w : World) (g k : Nat) (cs : Array Value) (h : k ≠ g) : (w.setRow g cs).heap[k]? = w.heap[k]? := by
  simp only [World.setRow, Array.getElem?_modify]; rw [if_neg (fun e => h e.symm)]
theorem Ext.setRow (w : World) (g : Nat) (cs : Array Value) (hD : D g) : Ext D w (w.setRow g cs) := ⟨rfl, rfl, rfl, by simp, fun k _ hn => setRow_at w g k cs fun e => hn (e ▸ hD)⟩

/-- What holds of w, and of each world that has w's blocks of ok. -/
def Foot (p : World → Prop) (w : World) (ok : Nat → Prop) : Prop := ∀ w' : World, (∀ k, ok k → k < w.heap.size → w'.heap[k]? = w.heap[k]?) → p w'
section
variable {p q : World → Prop} {ok ok' : Nat → Prop}
theorem Foot.now (h : Foot p w ok) : p w := h w fun _ _ _ => rfl
theorem Foot.mono (h : Foot p w ok) (hk : ∀ k, k < w.heap.size → ok k → ok' k) : Foot p w ok' := fun w' hw => h w' fun k ho hl => hw k (hk k hl ho) hl
theorem Foot.imp (h : Foot p w ok) (hi : ∀ w', p w' → q w') : Foot q w ok := fun w' hw => hi w' (h w' hw)
theorem Foot.and (h : Foot p w ok) (h2 : Foot q w ok) : Foot (fun w => p w ∧ q w) w ok := fun w' hw => ⟨h w' hw, h2 w' hw⟩
theorem heap_lt' {W W1 : World} {k : Nat} (h : W1.heap[k]? = W.heap[k]?) (hlt : k < W.heap.size) : k < W1.heap.size := by
  rw [Array.getElem?_eq_getElem hlt] at h
  exact (Array.getElem?_eq_some_iff.1 h).1
theorem Foot.ext (h : Foot p w ok) (he : Ext D w w1) (hd : ∀ k, k < w.heap.size → ok k → ¬ D k) : Foot p w1 ok := fun w' hw =>
  h w' fun k ho hl => (hw k ho (Nat.lt_of_lt_of_le hl he.size)).trans (he.block k hl (hd k hl ho))
/-- Moved, and still elder than what is new. -/
theorem Foot.old (h : Foot p w ok) (he : Ext D w w1) (hd : ∀ k, k < w.heap.size → ok k → ¬ D k) : Foot p w1 (fun k => ok k ∧ k < w.heap.size) :=
  (h.mono (ok' := fun k => ok k ∧ k < w.heap.size) fun _ hl ho => ⟨ho, hl⟩).ext he fun k hl ho => hd k hl ho.1
theorem Foot.ext0 (h : Foot p w ok) (he : Ext No w w1) : Foot p w1 ok := h.ext he fun _ _ _ h => h
theorem Foot.at_ (h : Foot p w ok) (he : Ext D w w1) (hd : ∀ k, k < w.heap.size → ok k → ¬ D k) : p w1 := (h.ext he hd).now
theorem Foot.pure (h : ∀ w, p w) : Foot p w ok := fun w' _ => h w'
end

/-- A block whose cells are known. -/
structure Blk where
  b : Nat
  cs : List Value
  t : TypeId
def BlkIn (w : World) (x : Blk) : Prop := w.heap[x.b]? = some (.cells x.cs.toArray x.t (0, 0))
def Apart : List Blk → Prop
  | [] => True
  | x :: r => (∀ y, y ∈ r → y.b ≠ x.b) ∧ Apart r
/-- The worlds behind w0: outside D all is as it was; these blocks are known; they are of D, or new. -/
structure Cls (w0 : World) (D : Nat → Prop) (H : List Blk) (w : World) : Prop where
  ext : Ext D w0 w
  has : ∀ x, x ∈ H → BlkIn w x
  apart : Apart H
  mine : ∀ x, x ∈ H → D x.b ∨ w0.heap.size ≤ x.b

variable {w0 : World} {H H' : List Blk}
theorem BlkIn.lt {x : Blk} (h : BlkIn w x) : x.b < w.heap.size := (Array.getElem?_eq_some_iff.1 h).1
theorem BlkIn.ext0 {x : Blk} (h : BlkIn w x) (he : Ext No w w1) : BlkIn w1 x := (he.block _ h.lt id).trans h
theorem Cls.start (D : Nat → Prop) (w : World) : Cls w D [] w := ⟨.refl _ _, by simp, trivial, by simp⟩
theorem Cls.ext0 (h : Cls w0 D H w) (he : Ext No w w1) : Cls w0 D H w1 := ⟨h.ext.thenNo he, fun x hx => (h.has x hx).ext0 he, h.apart, h.mine⟩
theorem Cls.drew (h : Cls w0 D H w) : Cls w0 D H w.drew := h.ext0 (.drew w)
theorem Cls.drop {x : Blk} (h : Cls w0 D (x :: H) w) : Cls w0 D H w := ⟨h.ext, fun y hy => h.has y (.tail _ hy), h.apart.2, fun y hy => h.mine y (.tail _ hy)⟩
theorem Cls.alloc (h : Cls w0 D H w) (cs : List Value) (t : TypeId) : Cls w0 D (⟨w.heap.size, cs, t⟩ :: H) (w.alloc (.cells cs.toArray t)) := by
  refine ⟨h.ext.thenNo (.alloc _ _), fun x hx => ?_, ⟨fun y hy => Nat.ne_of_lt (h.has y hy).lt, h.apart⟩, fun x hx => ?_⟩
  · cases hx with
    | head => exact heap_alloc_new w _
    | tail _ hx => exact (h.has x hx).ext0 (.alloc _ _)
  · cases hx with
    | head => exact .inr h.ext.size
    | tail _ hx => exact h.mine x hx
/-- The blocks that are known. -/
def Bs (H : List Blk) (k : Nat) : Prop := ∃ x, x ∈ H ∧ x.b = k
theorem Cls.rebase (h : Cls w0 D H w) : Cls w (Bs H) H w := ⟨.refl _ _, h.has, h.apart, fun x hx => .inl ⟨x, hx, rfl⟩⟩
/-- From the elder begin on. -/
theorem Cls.via (h : Cls w0 D H w) (h2 : Ext (Bs H) w w1) : Ext D w0 w1 := h.ext.then h2 fun k hk ⟨x, hx, he⟩ => by
  subst he
  exact (h.mine x hx).resolve_right (by omega)
theorem Cls.bs_lt (h : Cls w0 D H w) {k : Nat} (hk : Bs H k) : k < w.heap.size := by
  obtain ⟨x, hx, rfl⟩ := hk; exact (h.has x hx).lt
theorem Cls.bs_new (h : Cls w0 No H w) {k : Nat} (hk : Bs H k) : w0.heap.size ≤ k := by
  obtain ⟨x, hx, rfl⟩ := hk; exact (h.mine x hx).resolve_left id
theorem apart_set : ∀ (H : List Blk) (i : Nat) (b : Nat) (cs cs' : List Value) (t : TypeId), Apart H → H[i]? = some ⟨b, cs, t⟩ → Apart (H.set i ⟨b, cs', t⟩)
  | [], i, _, _, _, _, _, h => by simp at h
  | x :: r, 0, b, cs, cs', t, ha, h => by
    simp at h; subst h
    exact ⟨ha.1, ha.2⟩
  | x :: r, i + 1, b, cs, cs', t, ha, h => by
    simp only [List.getElem?_cons_succ] at h
    refine ⟨fun y hy => ?_, apart_set r i b cs cs' t ha.2 h⟩
    rcases List.mem_or_eq_of_mem_set hy with hy | rfl
    · exact ha.1 y hy
    · exact ha.1 ⟨b, cs, t⟩ (List.mem_of_getElem? h)
theorem apart_ne : ∀ (H : List Blk) (i : Nat) (x : Blk), Apart H → H[i]? = some x → ∀ (j : Nat) (y : Blk), H[j]? = some y → y.b = x.b → j = i
  | [], _, _, _, h, _, _, _, _ => by simp at h
  | z :: r, 0, x, ha, h, j, y, hj, he => by
    simp at h; subst h
    cases j with
    | zero => rfl
    | succ j => simp only [List.getElem?_cons_succ] at hj; exact absurd he (ha.1 y (List.mem_of_getElem? hj))
  | z :: r, i + 1, x, ha, h, j, y, hj, he => by
    simp only [List.getElem?_cons_succ] at h
    cases j with
    | zero => simp at hj; subst hj; exact absurd he.symm (ha.1 x (List.mem_of_getElem? h))
    | succ j => simp only [List.getElem?_cons_succ] at hj; rw [apart_ne r i x ha.2 h j y hj he]
theorem Cls.set (h : Cls w0 D H w) {i b : Nat} {cs cs' : List Value} {t : TypeId} (hi : H[i]? = some ⟨b, cs, t⟩) : Cls w0 D (H.set i ⟨b, cs', t⟩) (w.setRow b cs'.toArray) := by
  have hb := h.has _ (List.mem_of_getElem? hi)
  have hm := h.mine _ (List.mem_of_getElem? hi)
  refine ⟨?_, fun x hx => ?_, apart_set H i b cs cs' t h.apart hi, fun x hx => ?_⟩
  · rcases hm with hm | hm
    · exact h.ext.trans (.setRow w b _ hm)
    · refine h.ext.then (D2 := fun k => k = b) (.setRow w b _ rfl) fun k hk he => ?_
      subst he; simp at hm; omega
  · obtain ⟨j, hj⟩ := List.mem_iff_getElem?.1 hx
    rw [List.getElem?_set] at hj
    by_cases hij : i = j
    · subst hij
      rw [if_pos rfl] at hj
      split at hj
      · cases hj
        exact setRow_heap w b cs.toArray cs'.toArray t _ hb
      · cases hj
    · rw [if_neg hij] at hj
      have hxb : x.b ≠ b := fun he => hij (apart_ne H i _ h.apart hi j x hj he).symm
      exact (setRow_at w b x.b _ hxb).trans (h.has x (List.mem_of_getElem? hj))
  · rcases List.mem_or_eq_of_mem_set hx with hx | rfl
    · exact h.mine x hx
    · exact hm
end

theorem add_lit (b o m : Nat) : (⟨b, o, none⟩ : Addr).add m = ⟨b, o + m, none⟩ := by unfold Addr.add; split <;> simp_all
/-- What a load of this type at this address comes to. -/
def Lds (P : Program) (t : TypeId) (p : Addr) (v : Value) (w : World) : Prop := (loadVar t p).run P w = .ok v w

section
variable {P : Program} {f n : Nat} {R : Ending → World → Prop} {k : List Item} {e e' : Env} {w w' w0 : World} {a : Act} {C C' : World → Prop} {D : Nat → Prop} {H H' : List Blk}
variable {ops : Array Oper} {rest : List Oper} {ty t t2 : TypeId} {pos : String} {aft : Array Edge} {d : Nat} {v : Value} {x y z : Operand} {dst : Option Tmp} {gd : Option (Nat × Bool)} {p q : Int} {b o : Nat} {cs l : List Value}

theorem Y_move (hx : opv e x = some v) : Yl P C n e ⟨dst, .move x, ty, pos, aft, gd⟩ v := fun a w ha _ => by simp [execOp, ha.eval hx]
theorem Y_assign (hx : opv e x = some v) : Yl P C n e ⟨dst, .assign x, ty, pos, aft, gd⟩ v := fun a w ha _ => by simp [execOp, ha.eval hx]
theorem Y_pick_t {c : Operand} (hc : opv e c = some (.bool true)) (hx : opv e x = some v) : Yl P C n e ⟨dst, .pick c x y, ty, pos, aft, gd⟩ v := fun a w ha _ => by
  simp [execOp, ha.eval hx, ha.eval hc, asBool]
theorem Y_pick_f {c : Operand} (hc : opv e c = some (.bool false)) (hx : opv e y = some v) : Yl P C n e ⟨dst, .pick c x y, ty, pos, aft, gd⟩ v := fun a w ha _ => by
  simp [execOp, ha.eval hx, ha.eval hc, asBool]

section ints
variable {kd : IntKind}
theorem run_bin (op : BinOp) (w : World) (hs : op ≠ .shl) (hr : op ≠ .shr) : (do eqGuard op t x y (.int kd p) (.int kd q); binOp op t (.int kd p) (.int kd q) : Sem Value).run P w = (binOp op t (.int kd p) (.int kd q)).run P w := by
  unfold eqGuard
  cases op <;> simp at hs hr ⊢
theorem Y_wrap (op : BinOp) (g : Int → Int → Int) (hg : ∀ p q w, (Op.intArith op kd p q).run P w = .ok (.int kd (kd.wrap (g p q))) w) (hop : op = .add ∨ op = .sub ∨ op = .mul) (hx : opv e x = some (.int kd p)) (hy : opv e y = some (.int kd q)) :
    Yl P C n e ⟨dst, .binOp op t x y t2, ty, pos, aft, gd⟩ (.int kd (kd.wrap (g p q))) := fun a w ha _ => by
  simp only [execOp, ha.eval hx, ha.eval hy]
  simp only [Sem.run_bind, run_bin op w (by rcases hop with h | h | h <;> subst h <;> simp) (by rcases hop with h | h | h <;> subst h <;> simp)]
  rcases hop with h | h | h <;> subst h <;> simp [binOp, hg]
theorem Y_addw (hx : opv e x = some (.int kd p)) (hy : opv e y = some (.int kd q)) : Yl P C n e ⟨dst, .binOp .add t x y t2, ty, pos, aft, gd⟩ (.int kd (kd.wrap (p + q))) :=
  Y_wrap .add (· + ·) (fun _ _ _ => rfl) (by simp) hx hy
theorem Y_subw (hx : opv e x = some (.int kd p)) (hy : opv e y = some (.int kd q)) : Yl P C n e ⟨dst, .binOp .sub t x y t2, ty, pos, aft, gd⟩ (.int kd (kd.wrap (p - q))) :=
  Y_wrap .sub (· - ·) (fun _ _ _ => rfl) (by simp) hx hy
theorem Y_mulw (hx : opv e x = some (.int kd p)) (hy : opv e y = some (.int kd q)) : Yl P C n e ⟨dst, .binOp .mul t x y t2, ty, pos, aft, gd⟩ (.int kd (kd.wrap (p * q))) :=
  Y_wrap .mul (· * ·) (fun _ _ _ => rfl) (by simp) hx hy
theorem wrap_in {m : Int} (h : -9223372036854775808 ≤ m ∧ m ≤ 9223372036854775807) : IntKind.i64.wrap m = m := by
  unfold IntKind.wrap
  simp [IntKind.bits, IntKind.signed]
  split <;> omega
theorem Y_add (hx : opv e x = some (.int .i64 p)) (hy : opv e y = some (.int .i64 q)) (hb : -9223372036854775808 ≤ p + q ∧ p + q ≤ 9223372036854775807) : Yl P C n e ⟨dst, .binOp .add t x y t2, ty, pos, aft, gd⟩ (.int .i64 (p + q)) := by
  have h := Y_addw (P := P) (C := C) (n := n) (dst := dst) (t := t) (t2 := t2) (ty := ty) (pos := pos) (aft := aft) (gd := gd) hx hy
  rwa [wrap_in hb] at h
theorem Y_sub (hx : opv e x = some (.int .i64 p)) (hy : opv e y = some (.int .i64 q)) (hb : -9223372036854775808 ≤ p - q ∧ p - q ≤ 9223372036854775807) : Yl P C n e ⟨dst, .binOp .sub t x y t2, ty, pos, aft, gd⟩ (.int .i64 (p - q)) := by
  have h := Y_subw (P := P) (C := C) (n := n) (dst := dst) (t := t) (t2 := t2) (ty := ty) (pos := pos) (aft := aft) (gd := gd) hx hy
  rwa [wrap_in hb] at h
theorem Y_mul (hx : opv e x = some (.int .i64 p)) (hy : opv e y = some (.int .i64 q)) (hb : -9223372036854775808 ≤ p * q ∧ p * q ≤ 9223372036854775807) : Yl P C n e ⟨dst, .binOp .mul t x y t2, ty, pos, aft, gd⟩ (.int .i64 (p * q)) := by
  have h := Y_mulw (P := P) (C := C) (n := n) (dst := dst) (t := t) (t2 := t2) (ty := ty) (pos := pos) (aft := aft) (gd := gd) hx hy
  rwa [wrap_in hb] at h
theorem Y_cmp (op : BinOp) (r : Bool) (hg : ∀ w, (binOp op t (.int kd p) (.int kd q)).run P w = .ok (.bool r) w) (hs : op ≠ .shl) (hr : op ≠ .shr) (hx : opv e x = some (.int kd p)) (hy : opv e y = some (.int kd q)) :
    Yl P C n e ⟨dst, .binOp op t x y t2, ty, pos, aft, gd⟩ (.bool r) := fun a w ha _ => by
  simp only [execOp, ha.eval hx, ha.eval hy]
  simp only [Sem.run_bind, run_bin op w hs hr, hg]
  rfl
theorem Y_lss (hx : opv e x = some (.int kd p)) (hy : opv e y = some (.int kd q)) : Yl P C n e ⟨dst, .binOp .lss t x y t2, ty, pos, aft, gd⟩ (.bool (decide (p < q))) :=
  Y_cmp .lss _ (fun w => by simp [binOp, Op.intCmp]) (by simp) (by simp) hx hy
theorem Y_leq (hx : opv e x = some (.int kd p)) (hy : opv e y = some (.int kd q)) : Yl P C n e ⟨dst, .binOp .leq t x y t2, ty, pos, aft, gd⟩ (.bool (decide (p ≤ q))) :=
  Y_cmp .leq _ (fun w => by simp [binOp, Op.intCmp]) (by simp) (by simp) hx hy
theorem Y_gtr (hx : opv e x = some (.int kd p)) (hy : opv e y = some (.int kd q)) : Yl P C n e ⟨dst, .binOp .gtr t x y t2, ty, pos, aft, gd⟩ (.bool (decide (q < p))) :=
  Y_cmp .gtr _ (fun w => by simp [binOp, Op.intCmp]) (by simp) (by simp) hx hy
theorem Y_geq (hx : opv e x = some (.int kd p)) (hy : opv e y = some (.int kd q)) : Yl P C n e ⟨dst, .binOp .geq t x y t2, ty, pos, aft, gd⟩ (.bool (decide (q ≤ p))) :=
  Y_cmp .geq _ (fun w => by simp [binOp, Op.intCmp]) (by simp) (by simp) hx hy
theorem beq_dec (p q : Int) : (p == q) = decide (p = q) := by by_cases h : p = q <;> simp [h]
theorem bne_dec (p q : Int) : (p != q) = decide (p ≠ q) := by by_cases h : p = q <;> simp [h]
theorem Y_gtr_t (hx : opv e x = some (.int kd p)) (hy : opv e y = some (.int kd q)) (h : q < p) : Yl P C n e ⟨dst, .binOp .gtr t x y t2, ty, pos, aft, gd⟩ (.bool true) := by have := Y_gtr (P := P) (C := C) (n := n) (dst := dst) (t := t) (t2 := t2) (ty := ty) (pos := pos) (aft := aft) (gd := gd) hx hy; rwa [decide_eq_true h] at this
theorem Y_gtr_f (hx : opv e x = some (.int kd p)) (hy : opv e y = some (.int kd q)) (h : ¬ q < p) : Yl P C n e ⟨dst, .binOp .gtr t x y t2, ty, pos, aft, gd⟩ (.bool false) := by have := Y_gtr (P := P) (C := C) (n := n) (dst := dst) (t := t) (t2 := t2) (ty := ty) (pos := pos) (aft := aft) (gd := gd) hx hy; rwa [decide_eq_false h] at this
theorem Y_eql (hx : opv e x = some (.int kd p)) (hy : opv e y = some (.int kd q)) : Yl P C n e ⟨dst, .binOp .eql t x y t2, ty, pos, aft, gd⟩ (.bool (decide (p = q))) :=
  Y_cmp .eql _ (fun w => by simp [binOp, Op.intCmp, beq_dec]) (by simp) (by simp) hx hy
theorem Y_neq (hx : opv e x = some (.int kd p)) (hy : opv e y = some (.int kd q)) : Yl P C n e ⟨dst, .binOp .neq t x y t2, ty, pos, aft, gd⟩ (.bool (decide (p ≠ q))) :=
  Y_cmp .neq _ (fun w => by simp [binOp, Op.intCmp, bne_dec]) (by simp) (by simp) hx hy
theorem Y_rem (hx : opv e x = some (.int kd p)) (hy : opv e y = some (.int kd q)) (hq : q ≠ 0) : Yl P C n e ⟨dst, .binOp .rem t x y t2, ty, pos, aft, gd⟩ (.int kd (p.tmod q)) := fun a w ha _ => by
  simp only [execOp, ha.eval hx, ha.eval hy, Sem.run_bind, run_bin .rem w (by simp) (by simp)]
  simp [binOp, Op.intDiv, hq]
theorem Y_quo (hx : opv e x = some (.int kd p)) (hy : opv e y = some (.int kd q)) (hq : q ≠ 0) : Yl P C n e ⟨dst, .binOp .quo t x y t2, ty, pos, aft, gd⟩ (.int kd (kd.wrap (p.tdiv q))) := fun a w ha _ => by
  simp only [execOp, ha.eval hx, ha.eval hy, Sem.run_bind, run_bin .quo w (by simp) (by simp)]
  simp [binOp, Op.intDiv, hq]
theorem Y_min {ats : Array TypeId} (hx : opv e x = some (.int kd p)) (hy : opv e y = some (.int kd q)) : Yl P C n e ⟨dst, .call { callee := .builtin .min, args := #[x, y], argTypes := ats }, ty, pos, aft, gd⟩ (.int kd (min p q)) := fun a w ha _ => by
  have h : (if q < p then q else p) = min p q := by omega
  simp [execOp, resolve, invoke, builtin, Builtin.min_, Builtin.min2, ha.eval hx, ha.eval hy, h]
theorem Y_max {ats : Array TypeId} (hx : opv e x = some (.int kd p)) (hy : opv e y = some (.int kd q)) : Yl P C n e ⟨dst, .call { callee := .builtin .max, args := #[x, y], argTypes := ats }, ty, pos, aft, gd⟩ (.int kd (max p q)) := fun a w ha _ => by
  have h : (if q > p then q else p) = max p q := by omega
  simp [execOp, resolve, invoke, builtin, Builtin.max_, Builtin.max2, ha.eval hx, ha.eval hy, h]
theorem Y_conv {k2 : IntKind} [hv : VI P t t2 k2] (hx : opv e x = some (.int kd p)) : Yl P C n e ⟨dst, .convert t t2 x, ty, pos, aft, gd⟩ (.int k2 (k2.wrap p)) := fun a w ha _ => by
  obtain ⟨d, hd⟩ := hv.src
  simp [execOp, convert, ha.eval hx, run_underlying hd, run_underlying hv.dst, Conv.intToInt]
theorem Y_convU [hv : VI P t t2 .u64] (hx : opv e x = some (.int kd p)) (hb : 0 ≤ p ∧ p ≤ 9223372036854775807) : Yl P C n e ⟨dst, .convert t t2 x, ty, pos, aft, gd⟩ (.int .u64 p) := by
  have h := Y_conv (P := P) (C := C) (n := n) (dst := dst) (ty := ty) (pos := pos) (aft := aft) (gd := gd) (t := t) (t2 := t2) (k2 := .u64) hx
  rwa [show IntKind.u64.wrap p = p by unfold IntKind.wrap; simp [IntKind.bits, IntKind.signed]; omega] at h
theorem Y_convI [hv : VI P t t2 .i64] (hx : opv e x = some (.int kd p)) (hb : -9223372036854775808 ≤ p ∧ p ≤ 9223372036854775807) : Yl P C n e ⟨dst, .convert t t2 x, ty, pos, aft, gd⟩ (.int .i64 p) := by
  have h := Y_conv (P := P) (C := C) (n := n) (dst := dst) (ty := ty) (pos := pos) (aft := aft) (gd := gd) (t := t) (t2 := t2) (k2 := .i64) hx
  rwa [wrap_in hb] at h
theorem Y_shr {k2 : IntKind} (hx : opv e x = some (.int kd p)) (hy : opv e y = some (.int k2 q)) (hq : 0 ≤ q) : Yl P C n e ⟨dst, .binOp .shr t x y t2, ty, pos, aft, gd⟩ (.int kd (p / 2 ^ min q.toNat kd.bits)) := fun a w ha _ => by
  have h0 : (0 : Int) ≤ 2 ^ min q.toNat kd.bits := Int.le_of_lt (Int.pow_pos (by decide))
  simp [execOp, ha.eval hx, ha.eval hy, eqGuard, binOp, Op.shift, Int.not_lt.mpr hq, Int.fdiv_eq_ediv_of_nonneg _ h0]
theorem Y_half (hx : opv e x = some (.int .u64 p)) : Yl P C n e ⟨dst, .binOp .shr t x (.const (.int .u64 1)) t2, ty, pos, aft, gd⟩ (.int .u64 (p / 2)) := by
  have h := Y_shr (P := P) (C := C) (n := n) (dst := dst) (t := t) (t2 := t2) (ty := ty) (pos := pos) (aft := aft) (gd := gd) (kd := .u64) (k2 := .u64) (y := .const (.int .u64 1)) hx rfl (by decide)
  simpa [IntKind.bits] using h
end ints

theorem Y_not {r : Bool} (hx : opv e x = some (.bool r)) : Yl P C n e ⟨dst, .unOp .not t x, ty, pos, aft, gd⟩ (.bool (!r)) := fun a w ha _ => by simp [execOp, Op.unary, ha.eval hx]
theorem Y_not_d {r : Prop} {inst : Decidable r} (hx : opv e x = some (.bool (decide r))) : Yl P C n e ⟨dst, .unOp .not t x, ty, pos, aft, gd⟩ (.bool (decide (¬ r))) := fun a w ha _ => by simp [execOp, Op.unary, ha.eval hx]
theorem Y_neg {kd : IntKind} (hx : opv e x = some (.int kd p)) : Yl P C n e ⟨dst, .unOp .neg t x, ty, pos, aft, gd⟩ (.int kd (kd.wrap (0 - p))) := fun a w ha _ => by simp [execOp, Op.unary, Op.intArith, ha.eval hx]
theorem Y_nilCheck {p : Addr} (hx : opv e x = some (.pointer (some p))) : Yl P C n e ⟨dst, .nilCheck x, ty, pos, aft, gd⟩ (.pointer (some p)) := fun a w ha _ => by simp [execOp, ha.eval hx]
theorem Y_nilCheckF {g : Nat} {fs cap : Array Value} (hx : opv e x = some (.func (.func g) fs cap)) : Yl P C n e ⟨dst, .nilCheck x, ty, pos, aft, gd⟩ (.func (.func g) fs cap) := fun a w ha _ => by simp [execOp, ha.eval hx]
theorem eval_const (a : Act) (u : Value) : a.eval (.const u) = u := rfl
theorem guard_nilp (op : BinOp) (pp : Option Addr) (w : World) : (eqGuard op t x y (.pointer pp) (.pointer none)).run P w = .ok () w := by unfold eqGuard; split <;> rfl
theorem guard_nils (op : BinOp) (A : Option Addr) (m c : Nat) (w : World) : (eqGuard op t x y (.slice A m c) (.slice none 0 0)).run P w = .ok () w := by unfold eqGuard; split <;> rfl
theorem Y_pnil [h : PI P t] {pp : Option Addr} (hx : opv e x = some (.pointer pp)) : Yl P C n e ⟨dst, .binOp .eql t x (.const (.pointer none)) t2, ty, pos, aft, gd⟩ (.bool pp.isNone) := fun a w ha _ => by
  simp only [execOp, ha.eval hx, eval_const, Sem.run_bind, guard_nilp, Result.andThen_ok, run_eql_pointer_nil w t pp h.und]; rfl
theorem Y_pnn [h : PI P t] {pp : Option Addr} (hx : opv e x = some (.pointer pp)) : Yl P C n e ⟨dst, .binOp .neq t x (.const (.pointer none)) t2, ty, pos, aft, gd⟩ (.bool (!pp.isNone)) := fun a w ha _ => by
  simp only [execOp, ha.eval hx, eval_const, Sem.run_bind, guard_nilp, Result.andThen_ok, run_neq_pointer_nil w t pp h.und]; rfl
theorem Y_pnil_t [h : PI P t] (hx : opv e x = some (.pointer none)) : Yl P C n e ⟨dst, .binOp .eql t x (.const (.pointer none)) t2, ty, pos, aft, gd⟩ (.bool true) := Y_pnil hx
theorem Y_pnil_f [h : PI P t] {p : Addr} (hx : opv e x = some (.pointer (some p))) : Yl P C n e ⟨dst, .binOp .eql t x (.const (.pointer none)) t2, ty, pos, aft, gd⟩ (.bool false) := Y_pnil hx
theorem Y_pnn_t [h : PI P t] (hx : opv e x = some (.pointer none)) : Yl P C n e ⟨dst, .binOp .neq t x (.const (.pointer none)) t2, ty, pos, aft, gd⟩ (.bool false) := Y_pnn hx
theorem Y_pnn_f [h : PI P t] {p : Addr} (hx : opv e x = some (.pointer (some p))) : Yl P C n e ⟨dst, .binOp .neq t x (.const (.pointer none)) t2, ty, pos, aft, gd⟩ (.bool true) := Y_pnn hx
theorem Y_snil {s : Nat} {el : TypeId} [h : SI P t el s] {A : Option Addr} {m c : Nat} (hx : opv e x = some (.slice A m c)) : Yl P C n e ⟨dst, .binOp .eql t x (.const (.slice none 0 0)) t2, ty, pos, aft, gd⟩ (.bool A.isNone) := fun a w ha _ => by
  simp only [execOp, ha.eval hx, eval_const, Sem.run_bind, guard_nils, Result.andThen_ok, Lib.run_eql_slice_nil w t el A m c 0 0 h.und]; rfl
theorem Y_extract {vs : List Value} {i : Nat} (hx : opv e x = some (.tuple vs.toArray)) (hi : vs[i]? = some v) : Yl P C n e ⟨dst, .extract x i, ty, pos, aft, gd⟩ v := fun a w ha _ => by
  simp [execOp, Instr.extract, ha.eval hx, hi]
theorem Y_len {el : TypeId} {s : Nat} [h : SI P t el s] {A : Option Addr} {m c : Nat} (hx : opv e x = some (.slice A m c)) : Yl P C n e ⟨dst, .call { callee := .builtin .len, args := #[x], argTypes := #[t] }, ty, pos, aft, gd⟩ (.int .i64 (m : Int)) := fun a w ha _ => by
  simp [execOp, resolve, invoke, builtin, Builtin.len_, goInt, ha.eval hx, run_underlying h.und]
theorem Y_fieldAddr {i off o' : Nat} [h : FI P t i off] (hx : opv e x = some (.pointer (some ⟨b, o, none⟩))) (ho : o + off = o') : Yl P C n e ⟨dst, .fieldAddr t x i, ty, pos, aft, gd⟩ (.pointer (some ⟨b, o', none⟩)) := fun a w ha _ => by
  subst ho
  simp [execOp, ha.eval hx, h.run, add_lit]
theorem Y_indexAddr {el : TypeId} {s : Nat} [h : SI P t el s] {A : Addr} {m c : Nat} (hx : opv e x = some (.slice (some A) m c)) (hy : opv e y = some (.int .i64 p)) (h0 : 0 ≤ p ∧ p < (m : Int)) :
    Yl P C n e ⟨dst, .indexAddr t x y, ty, pos, aft, gd⟩ (.pointer (some (A.add (p.toNat * s)))) := fun a w ha _ => by
  simp [execOp, Instr.indexAt, asIntOf, ha.eval hx, ha.eval hy, run_underlying h.und, h.sizeOf, h0.1, h0.2]
theorem Y_makeFunc {g : Nat} {xs : List Operand} {l : List Value} (hx : opvs e xs = some l) : Yl P C n e ⟨dst, .makeFunc (.func g) #[] xs.toArray, ty, pos, aft, gd⟩ (.func (.func g) #[] l.toArray) := fun a w ha _ => by
  simp [execOp, Instr.makeFunc, ha.evals hx]
def bvs (e : Env) : List (Nat × Operand) → Option (List (Nat × Value))
  | [] => some []
  | q :: r => match opv e q.2, bvs e r with
    | some v, some vs => some ((q.1, v) :: vs)
    | _, _ => none
theorem bvs_eq {a : Act} (ha : Fits n e a) : ∀ (ps : List (Nat × Operand)) (vs : List (Nat × Value)), bvs e ps = some vs → ps.map (fun q => (q.1, a.eval q.2)) = vs
  | [], vs, h => by simp [bvs] at h; simp [← h]
  | q :: r, vs, h => by
    unfold bvs at h
    split at h
    · rename_i v vs' h1 h2
      cases h
      rw [List.map_cons, bvs_eq ha r vs' h2, ha.eval h1]
    · cases h
theorem Y_build {ps : List (Nat × Operand)} {vs : List (Nat × Value)} (hx : bvs e ps = some vs) (h : BI P t vs cs) : Yl P C n e ⟨dst, .build t ps.toArray, ty, pos, aft, gd⟩ (.agg cs.toArray) := fun a w ha _ => by
  have h1 := h.run w
  simp only [execOp, List.map_toArray, bvs_eq ha ps vs hx]
  simp [h1]

/-- A slice of a slice from its begin on. -/
theorem Y_slice_h {el : TypeId} {s : Nat} [h : SI P t el s] {A : Option Addr} {m c : Nat} (hx : opv e x = some (.slice A m c)) (hy : opv e y = some (.int .i64 p)) (h0 : 0 ≤ p ∧ p ≤ (c : Int)) :
    Yl P C n e ⟨dst, .slice t x none (some y) none, ty, pos, aft, gd⟩ (.slice A p.toNat c) := fun a w ha _ => by
  have h2 : (if c = 0 then A else A.map (·.add 0)) = A := by cases A <;> simp [Addr.add]
  simp [execOp, Instr.sliceAt, Instr.slice, Instr.sliceBounds, Instr.sliceBound, asIntOf, ha.eval hx, ha.eval hy, run_underlying h.und, h.sizeOf, h0.1, h0.2]
  cases A <;> simp [Addr.add]
/-- Where a slice begins that is cut at m. -/
def cutA (A : Option Addr) (c m s : Nat) : Option Addr := if c = m then A else A.map (·.add (m * s))
theorem Y_slice_l {el : TypeId} {s : Nat} [h : SI P t el s] {A : Option Addr} {m c : Nat} (hx : opv e x = some (.slice A m c)) (hy : opv e y = some (.int .i64 p)) (h0 : 0 ≤ p ∧ p ≤ (m : Int)) :
    Yl P C n e ⟨dst, .slice t x (some y) none none, ty, pos, aft, gd⟩ (.slice (cutA A c p.toNat s) (m - p.toNat) (c - p.toNat)) := fun a w ha _ => by
  simp [execOp, Instr.sliceAt, Instr.slice, Instr.sliceBounds, Instr.sliceBound, asIntOf, ha.eval hx, ha.eval hy, run_underlying h.und, h.sizeOf, h0.1, h0.2, cutA]
theorem Y_slice_lh {el : TypeId} {s : Nat} [h : SI P t el s] {A : Option Addr} {m c : Nat} (hx : opv e x = some (.slice A m c)) (hy : opv e y = some (.int .i64 p)) (hz : opv e z = some (.int .i64 q)) (h0 : 0 ≤ p ∧ p ≤ q ∧ q ≤ (c : Int)) :
    Yl P C n e ⟨dst, .slice t x (some y) (some z) none, ty, pos, aft, gd⟩ (.slice (cutA A c p.toNat s) (q.toNat - p.toNat) (c - p.toNat)) := fun a w ha _ => by
  have h4 : 0 ≤ q := by omega
  have h5 : max q 0 = q := by omega
  simp [execOp, Instr.sliceAt, Instr.slice, Instr.sliceBounds, Instr.sliceBound, asIntOf, ha.eval hx, ha.eval hy, ha.eval hz, run_underlying h.und, h.sizeOf, h0.1, h0.2.1, h0.2.2, h4, h5, cutA]

/-! ### Loads, stores, new blocks -/
theorem Y_loadP {p : Addr} (hx : opv e x = some (.pointer (some p))) (hl : ∀ w, C w → Lds P t p v w) : Yl P C n e ⟨dst, .load t x, ty, pos, aft, gd⟩ v := fun a w ha hw => by
  have h := hl w hw
  unfold Lds at h
  simp [execOp, Instr.loadAt, Instr.sureAddr, ha.eval hx, h]
theorem Lds.one {s : Nat} {zv : Value} [h : TI P t false s zv] {bt : TypeId} {cs : Array Value} {fr : Nat × Nat} (hb : w.heap[b]? = some (.cells cs bt fr)) (hv : cs[o]? = some v) : Lds P t ⟨b, o, none⟩ v w := by
  have hc : w.cell? ⟨b, o, none⟩ = some v := by simp [World.cell?, hb, hv]
  simp [Lds, loadVar, h.isAgg, hc]
theorem Lds.many {s : Nat} {zv : Value} [h : TI P t true s zv] {bt : TypeId} {cs : Array Value} {fr : Nat × Nat} (hb : w.heap[b]? = some (.cells cs bt fr)) (hv : (cs.toList.drop o).take s = l) (hl : l.length = s) : Lds P t ⟨b, o, none⟩ (.agg l.toArray) w := by
  have h1 := run_loadCells_list (P := P) (w := w) ⟨b, o, none⟩ l (fun j v hj => by
    rw [add_lit]
    rw [← hv, List.getElem?_take] at hj
    split at hj
    · rw [List.getElem?_drop] at hj
      simpa [World.cell?, hb] using hj
    · cases hj)
  rw [hl] at h1
  simp [Lds, loadVar, h.isAgg, h.sizeOf, h1]
theorem Y_load1 {s : Nat} {zv : Value} {bt : TypeId} (i : Nat) (hx : opv e x = some (.pointer (some ⟨b, o, none⟩))) (hH : H[i]? = some ⟨b, cs, bt⟩) (hv : cs[o]? = some v) (h : TI P t false s zv) :
    Yl P (Cls w0 D H) n e ⟨dst, .load t x, ty, pos, aft, gd⟩ v := Y_loadP hx fun w hw => Lds.one (hw.has _ (List.mem_of_getElem? hH)) (by simpa using hv)
/-- A whole block. -/
theorem Y_loadW {s : Nat} {zv : Value} {bt : TypeId} (i : Nat) (hx : opv e x = some (.pointer (some ⟨b, 0, none⟩))) (hH : H[i]? = some ⟨b, cs, bt⟩) (h : TI P t true s zv) (hl : cs.length = s) :
    Yl P (Cls w0 D H) n e ⟨dst, .load t x, ty, pos, aft, gd⟩ (.agg cs.toArray) := Y_loadP hx fun w hw => Lds.many (hw.has _ (List.mem_of_getElem? hH)) (by simp [← hl]) hl
theorem Y_loadS {s : Nat} {zv : Value} {bt : TypeId} (i : Nat) (hx : opv e x = some (.pointer (some ⟨b, o, none⟩))) (hH : H[i]? = some ⟨b, cs, bt⟩) (h : TI P t true s zv) (hv : (cs.drop o).take s = l) (hl : l.length = s) :
    Yl P (Cls w0 D H) n e ⟨dst, .load t x, ty, pos, aft, gd⟩ (.agg l.toArray) := Y_loadP hx fun w hw => Lds.many (hw.has _ (List.mem_of_getElem? hH)) (by simpa using hv) hl

theorem JL.alloc {ag : Bool} {s : Nat} {zv : Value} [h : TI P t ag s zv] (hz : zv.cells = cs.toArray) (hd : Nat.blt d n = true)
    (hk : ∀ b, JL P f n R (Cls w0 D (⟨b, cs, t⟩ :: H)) ops rest k ((d, .pointer (some ⟨b, 0, none⟩)) :: e)) : JL P f n R (Cls w0 D H) ops (⟨some d, .alloc t, ty, pos, aft, none⟩ :: rest) k e := by
  refine JL.x (X := Nat) (vx := fun b => .pointer (some ⟨b, 0, none⟩)) (Cx := fun b => Cls w0 D (⟨b, cs, t⟩ :: H)) (fun a w ha hw => ⟨w.heap.size, w.alloc (.cells cs.toArray t), ?_, hw.alloc cs t⟩) hd hk
  simp [execOp, Instr.alloc, newVar, newRow, h.zero, hz]
theorem JL.box (hx : opv e x = some v) (hz : v.cells = cs.toArray) (hd : Nat.blt d n = true)
    (hk : ∀ b, JL P f n R (Cls w0 D (⟨b, cs, t⟩ :: H)) ops rest k ((d, .pointer (some ⟨b, 0, none⟩)) :: e)) : JL P f n R (Cls w0 D H) ops (⟨some d, .box t x, ty, pos, aft, none⟩ :: rest) k e := by
  refine JL.x (X := Nat) (vx := fun b => .pointer (some ⟨b, 0, none⟩)) (Cx := fun b => Cls w0 D (⟨b, cs, t⟩ :: H)) (fun a w ha hw => ⟨w.heap.size, w.alloc (.cells cs.toArray t), ?_, hw.alloc cs t⟩) hd hk
  simp [execOp, Instr.box, newVar, newRow, ha.eval hx, hz]
theorem run_storeVar {ag : Bool} {s : Nat} {zv : Value} [h : TI P t ag s zv] {bt : TypeId} (hb : w.heap[b]? = some (.cells cs.toArray bt (0, 0))) (hv : v.cells = l.toArray) (hl : l.length = s) (hs : o + s ≤ cs.length) (h1 : ∀ u ∈ l, u.oneCell' = true) :
    (storeVar t ⟨b, o, none⟩ v).run P w = .ok () (w.setRow b (cs.take o ++ l ++ cs.drop (o + s)).toArray) := by
  have hst := run_storeCells_at P b o bt l 0 cs.toArray w hb (by simp; omega) h1
  simp [storeVar, h.sizeOf, hv, hl, hst]
/-- What a store into a known block leaves. -/
def Stores (P : Program) (n : Nat) (e : Env) (C C' : World → Prop) (o : Oper) : Prop := ∀ a w, Fits n e a → C w → ∃ w', (execOp a.eval o).run P w = .ok .skip w' ∧ C' w'
theorem St_at {ag : Bool} {s : Nat} {zv : Value} [h : TI P t ag s zv] {bt : TypeId} (i : Nat) (hx : opv e x = some (.pointer (some ⟨b, o, none⟩))) (hy : opv e y = some v) (hH : H[i]? = some ⟨b, cs, bt⟩) (hv : v.cells = l.toArray) (hl : l.length = s) (hs : o + s ≤ cs.length) (h1 : ∀ u ∈ l, u.oneCell' = true)
    (hn : H.set i ⟨b, cs.take o ++ l ++ cs.drop (o + s), bt⟩ = H') : Stores P n e (Cls w0 D H) (Cls w0 D H') ⟨dst, .store t x y, ty, pos, aft, gd⟩ := by
  subst hn
  refine fun a w ha hw => ⟨_, ?_, hw.set hH⟩
  have := run_storeVar (P := P) (w := w) (t := t) (v := v) (hw.has _ (List.mem_of_getElem? hH)) hv hl hs h1
  simp [execOp, Instr.storeAt, Instr.sureAddr, ha.eval hx, ha.eval hy, this]
/-- .. of a whole block. -/
theorem St_W {s : Nat} {zv : Value} {bt : TypeId} (i : Nat) (hx : opv e x = some (.pointer (some ⟨b, 0, none⟩))) (hy : opv e y = some (.agg l.toArray)) (hH : H[i]? = some ⟨b, cs, bt⟩) (h : TI P t true s zv) (hl : l.length = s) (hs : cs.length = s) (h1 : ∀ u ∈ l, u.oneCell' = true)
    (hn : H.set i ⟨b, l, bt⟩ = H') : Stores P n e (Cls w0 D H) (Cls w0 D H') ⟨dst, .store t x y, ty, pos, aft, gd⟩ :=
  St_at i hx hy hH rfl hl (by omega) h1 (by rw [← hn, hs.symm]; simp)
/-- .. of one cell. -/
theorem St_1 {zv : Value} {bt : TypeId} (i : Nat) (hx : opv e x = some (.pointer (some ⟨b, o, none⟩))) (hy : opv e y = some v) (h : TI P t false 1 zv) (hv : v.oneCell' = true) (hH : H[i]? = some ⟨b, cs, bt⟩) (hs : Nat.blt o cs.length = true)
    (hn : H.set i ⟨b, cs.set o v, bt⟩ = H') : Stores P n e (Cls w0 D H) (Cls w0 D H') ⟨dst, .store t x y, ty, pos, aft, gd⟩ := by
  have hlt : o < cs.length := by simpa using hs
  refine St_at (l := [v]) i hx hy hH (by cases v <;> simp [Value.oneCell', Value.cells] at hv ⊢) rfl (by simp; omega) (by simpa using hv) ?_
  rw [← hn]
  congr 2
  rw [List.set_eq_take_append_cons_drop, if_pos hlt]; simp
theorem JL.store (h : Stores P n e C C' ⟨none, .store t x y, ty, pos, aft, none⟩) (hk : JL P f n R C' ops rest k e) : JL P f n R C ops (⟨none, .store t x y, ty, pos, aft, none⟩ :: rest) k e := JL.st h hk

/-! ### Calls -/
/-- The callee computes v, makes garbage at most. -/
theorem JL.callq {g : Nat} {xs : List Operand} {l : List Value} {ats : Array TypeId} [hc : CI P g] (hx : opvs e xs = some l) (hd : Nat.blt d n = true)
    (h : ∀ w, Cls w0 D H w → Calls P g l.toArray w fun e w' => e = .returned v ∧ Ext No w w')
    (hk : JL P f n R (Cls w0 D H) ops rest k ((d, v) :: e)) : JL P f n R (Cls w0 D H) ops (⟨some d, .call { callee := .value (.func g), args := xs.toArray, argTypes := ats }, ty, pos, aft, none⟩ :: rest) k e := by
  intro w hw a ha
  refine wpList_call rfl (by have := run_call (ty := ty) (pos := pos) (aft := aft) (dst := some d) (gd := none) (ats := ats) (x := .func g) (cap := #[]) ha rfl hx hc.run w; simpa using this) ((h w hw).mono fun en w' he => ?_)
  obtain ⟨rfl, hE⟩ := he
  exact ⟨v, rfl, hk w' (hw.ext0 hE) _ (ha.put (by simpa using hd) v)⟩
/-- The same of a function value. -/
theorem JL.callqC {g : Nat} {xs : List Operand} {l cap : List Value} {ats : Array TypeId} (hf : opv e x = some (.func (.func g) #[] cap.toArray)) (hc : CI P g) (hx : opvs e xs = some l) (hd : Nat.blt d n = true)
    (h : ∀ w, Cls w0 D H w → Calls P g (l ++ cap).toArray w fun e w' => e = .returned v ∧ Ext No w w')
    (hk : JL P f n R (Cls w0 D H) ops rest k ((d, v) :: e)) : JL P f n R (Cls w0 D H) ops (⟨some d, .call { callee := .value x, args := xs.toArray, argTypes := ats }, ty, pos, aft, none⟩ :: rest) k e := by
  intro w hw a ha
  refine wpList_call rfl (by have := run_call (ty := ty) (pos := pos) (aft := aft) (dst := some d) (gd := none) (ats := ats) ha hf hx hc.run w; simpa using this) ((h w hw).mono fun en w' he => ?_)
  obtain ⟨rfl, hE⟩ := he
  exact ⟨v, rfl, hk w' (hw.ext0 hE) _ (ha.put (by simpa using hd) v)⟩
/-- Any call: what it leaves is told of the world that it left. -/
theorem JL.call {g : Nat} {xs : List Operand} {l : List Value} {ats : Array TypeId} [hc : CI P g] (Φ : World → Value → World → Prop) (hx : opvs e xs = some l) (hd : Nat.blt d n = true)
    (h : ∀ w, C w → Calls P g l.toArray w fun e w' => ∃ v, e = .returned v ∧ Φ w v w')
    (hk : ∀ w v w', C w → Φ w v w' → GL P f n R ops rest k ((d, v) :: e) w') : JL P f n R C ops (⟨some d, .call { callee := .value (.func g), args := xs.toArray, argTypes := ats }, ty, pos, aft, none⟩ :: rest) k e := by
  intro w hw a ha
  refine wpList_call rfl (by have := run_call (ty := ty) (pos := pos) (aft := aft) (dst := some d) (gd := none) (ats := ats) (x := .func g) (cap := #[]) ha rfl hx hc.run w; simpa using this) ((h w hw).mono fun en w' he => ?_)
  obtain ⟨v, rfl, hE⟩ := he
  exact ⟨v, rfl, hk w v w' hw hE _ (ha.put (by simpa using hd) v)⟩
theorem JL.callC {g : Nat} {xs : List Operand} {l : List Value} {cap : List Value} {ats : Array TypeId} (Φ : World → Value → World → Prop) (hf : opv e x = some (.func (.func g) #[] cap.toArray)) (hc : CI P g) (hx : opvs e xs = some l) (hd : Nat.blt d n = true)
    (h : ∀ w, C w → Calls P g (l ++ cap).toArray w fun e w' => ∃ v, e = .returned v ∧ Φ w v w')
    (hk : ∀ w v w', C w → Φ w v w' → GL P f n R ops rest k ((d, v) :: e) w') : JL P f n R C ops (⟨some d, .call { callee := .value x, args := xs.toArray, argTypes := ats }, ty, pos, aft, none⟩ :: rest) k e := by
  intro w hw a ha
  refine wpList_call rfl (by have := run_call (ty := ty) (pos := pos) (aft := aft) (dst := some d) (gd := none) (ats := ats) ha hf hx hc.run w; simpa using this) ((h w hw).mono fun en w' he => ?_)
  obtain ⟨v, rfl, hE⟩ := he
  exact ⟨v, rfl, hk w v w' hw hE _ (ha.put (by simpa using hd) v)⟩
/-- .. whose result nobody takes. -/
theorem JL.call0 {g : Nat} {xs : List Operand} {l : List Value} {ats : Array TypeId} [hc : CI P g] (Φ : World → Value → World → Prop) (hx : opvs e xs = some l)
    (h : ∀ w, C w → Calls P g l.toArray w fun e w' => ∃ v, e = .returned v ∧ Φ w v w')
    (hk : ∀ w v w', C w → Φ w v w' → GL P f n R ops rest k e w') : JL P f n R C ops (⟨none, .call { callee := .value (.func g), args := xs.toArray, argTypes := ats }, ty, pos, aft, none⟩ :: rest) k e := by
  intro w hw a ha
  refine wpList_call rfl (by have := run_call (ty := ty) (pos := pos) (aft := aft) (dst := none) (gd := none) (ats := ats) (x := .func g) (cap := #[]) ha rfl hx hc.run w; simpa using this) ((h w hw).mono fun en w' he => ?_)
  obtain ⟨v, rfl, hE⟩ := he
  exact ⟨v, rfl, hk w v w' hw hE _ (ha.put0 v)⟩

/-! ### Guards -/
theorem JL.guard_no {op : Op} {j dj : Nat} {wt r : Bool} (hj : (ops[j]?).bind (·.dst) = some dj) (hjn : Nat.blt dj n = true) (hv : e.get dj = some (.bool r)) (hr : (r == wt) = false) (hd : Nat.blt d n = true)
    (hk : JL P f n R C ops rest k ((d, undef) :: e)) : JL P f n R C ops (⟨some d, op, ty, pos, aft, some (j, wt)⟩ :: rest) k e := by
  intro w hw a ha
  have h1 := ha.get dj _ hv
  have hlt : dj < a.tmps.size := by rw [ha.sz]; simpa using hjn
  have hy : yielded ops a.tmps j = some r := by
    simp only [Array.getD_eq_getD_getElem?, Array.getElem?_eq_getElem hlt, Option.getD_some] at h1
    simp [yielded, hj, Array.getElem?_eq_getElem hlt, h1]
  unfold wpList
  have hne : (some r == some wt) = false := by simpa using hr
  simp only [Region.wanted, hy, hne, Bool.false_eq_true, if_false]
  exact hk w hw _ (ha.put (by simpa using hd) _)
theorem JL.guard_yes {op : Op} {j dj : Nat} {wt : Bool} {ds : Option Tmp} (hj : (ops[j]?).bind (·.dst) = some dj) (hjn : Nat.blt dj n = true) (hv : e.get dj = some (.bool wt))
    (hk : JL P f n R C ops (⟨ds, op, ty, pos, aft, none⟩ :: rest) k e) : JL P f n R C ops (⟨ds, op, ty, pos, aft, some (j, wt)⟩ :: rest) k e := by
  intro w hw a ha
  have h1 := ha.get dj _ hv
  have hlt : dj < a.tmps.size := by rw [ha.sz]; simpa using hjn
  have hy : yielded ops a.tmps j = some wt := by
    simp only [Array.getD_eq_getD_getElem?, Array.getElem?_eq_getElem hlt, Option.getD_some] at h1
    simp [yielded, hj, Array.getElem?_eq_getElem hlt, h1]
  have h2 := hk w hw a ha
  unfold wpList at h2 ⊢
  simp only [Region.wanted, if_true] at h2
  simp only [Region.wanted, hy, beq_self_eq_true, if_true]
  exact h2
end
end Go.Proofs.Ytmkpbbdocndfbaa
