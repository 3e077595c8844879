/- Lanes beside the document's: what holds of both between two steps. -/
import Derived.Test.YtmkpbbdocndfbaaRef10e
import Derived.Test.YtmkpbbdocndfbaaDrawA
namespace Go.Proofs.Ytmkpbbdocndfbaa
open Go.RowKit Go.Proofs
attribute [local irreducible] Yl JL J G GL GA GQ DR

/-- Lanes at g, and a list of the document's that tells the same; K where the list lies; all apart; made since W but for K. -/
structure LR (W w : World) (g : Nat) (O E K : Nat → Prop) (ln pl : Int) (ms : List Msg) (v : Value) (zs : Zs) : Prop where
  l : LObj w g O E ln pl ms
  r : Rd 5 MsgC w K v zs
  eq : zs.map (·.2) = St.srt Msg.lane ms
  k1 : ∀ k, K k → ¬ O k ∧ ¬ E k
  k2 : ∀ k, K k → k < w.heap.size
  oe : ∀ k, O k ∨ E k → W.heap.size ≤ k
section
variable {W w w' : World} {g : Nat} {O E K D : Nat → Prop} {ln pl : Int} {ms : List Msg} {v : Value} {zs : Zs}
theorem LR.ext (h : LR W w g O E K ln pl ms v zs) (he : Ext D w w') (hd : ∀ k, D k → ¬ O k ∧ ¬ E k ∧ ¬ K k) : LR W w' g O E K ln pl ms v zs :=
  ⟨h.l.ext he fun k hk hD => hk.elim (hd k hD).1 (hd k hD).2.1, h.r.ext he fun k _ hk hD => (hd k hD).2.2 hk, h.eq, h.k1, fun k hk => Nat.lt_of_lt_of_le (h.k2 k hk) he.size, h.oe⟩
theorem LR.ext0 (h : LR W w g O E K ln pl ms v zs) (he : Ext No w w') : LR W w' g O E K ln pl ms v zs := h.ext he fun _ h => h.elim
theorem LR.len (h : LR W w g O E K ln pl ms v zs) : zs.length ≤ 24 := by
  have h1 := congrArg List.length h.eq
  rw [St.srt_len, List.length_map] at h1
  rw [h1]; exact h.l.len
theorem LR.srt (h : LR W w g O E K ln pl ms v zs) : St.Srt Msg.lane (zs.map (·.2)) := by rw [h.eq]; exact St.srt_srt ms
/-- What is in neither, made before or known from elsewhere. -/
theorem LR.lt (h : LR W w g O E K ln pl ms v zs) {k : Nat} (hk : O k ∨ E k ∨ K k) : k < w.heap.size := by
  rcases hk with hk | hk | hk
  · exact h.l.lt k (.inl hk)
  · exact h.l.lt k (.inr hk)
  · exact h.k2 k hk
/-- Another list of the document's, read of what was there, of what came in, and of what is new since w. -/
theorem LR.list (h : LR W w g O E K ln pl ms v zs) (he : Ext No w w') (_ : W.heap.size ≤ w.heap.size) {v' : Value} {zs' : Zs} {_ : List Msg} (hr : Rd 5 MsgC w' (fun k => (K k ∨ k < W.heap.size) ∨ w.heap.size ≤ k) v' zs') :
    LObj w' g O E ln pl ms ∧ Rd 5 MsgC w' (fun k => ((K k ∨ k < W.heap.size) ∨ w.heap.size ≤ k) ∧ k < w'.heap.size) v' zs' ∧ (∀ k, (((K k ∨ k < W.heap.size) ∨ w.heap.size ≤ k) ∧ k < w'.heap.size) → ¬ O k ∧ ¬ E k) :=
  ⟨h.l.ext0 he, hr.mono fun k hk ho => ⟨ho, hk⟩, fun k hk => by
    have key : ∀ k, O k ∨ E k → k < w.heap.size ∧ W.heap.size ≤ k := fun k hk => ⟨h.l.lt k hk, h.oe k hk⟩
    refine ⟨fun ho => ?_, fun ho => ?_⟩
    · have := key k (.inl ho)
      rcases hk.1 with (h1 | h1) | h1
      · exact (h.k1 k h1).1 ho
      · omega
      · omega
    · have := key k (.inr ho)
      rcases hk.1 with (h1 | h1) | h1
      · exact (h.k1 k h1).2 ho
      · omega
      · omega⟩
end
/-- Both behind an operation of the lanes that tells the document's list. -/
theorem LTo.lr {W w w' : World} {g : Nat} {O E K : Nat → Prop} {ln pl : Int} {ms ms' : List Msg} {v : Value} {zs : Zs} (h : LTo w w' g O E ln pl ms') (_ : LObj w g O E ln pl ms) (hr : Rd 5 MsgC w K v zs) (hk : ∀ k, K k → ¬ O k ∧ ¬ E k) (hk2 : ∀ k, K k → k < w.heap.size)
    (hoe : ∀ k, O k ∨ E k → W.heap.size ≤ k) (hW : W.heap.size ≤ w.heap.size) (he : zs.map (·.2) = St.srt Msg.lane ms') : ∃ O' E', LR W w' g O' E' K ln pl ms' v zs ∧ (∀ k, O' k ∨ E' k → (O k ∨ E k) ∨ w.heap.size ≤ k) := by
  obtain ⟨hE, O', E', hL, hO, hE', -, -⟩ := h.open_
  have hs := hE.size
  refine ⟨O', E', ⟨hL, hr.ext hE fun k _ h1 h2 => (hk k h1).1 h2, he, fun k h1 => ⟨fun h2 => ?_, fun h2 => ?_⟩, fun k h1 => by have := hk2 k h1; omega, fun k h1 => ?_⟩, fun k h1 => ?_⟩
  · rcases hO k h2 with h3 | h3
    · exact (hk k h1).1 h3
    · have := hk2 k h1; omega
  · rcases hE' k h2 with h3 | h3
    · exact (hk k h1).2 h3
    · have := hk2 k h1; omega
  · rcases h1 with h1 | h1
    · rcases hO k h1 with h3 | h3
      · exact hoe k (.inl h3)
      · omega
    · rcases hE' k h1 with h3 | h3
      · exact hoe k (.inr h3)
      · omega
  · rcases h1 with h1 | h1
    · rcases hO k h1 with h3 | h3
      · exact .inl (.inl h3)
      · exact .inr h3
    · rcases hE' k h1 with h3 | h3
      · exact .inl (.inr h3)
      · exact .inr h3
theorem room_srt (ln pl : Int) (ms : List Msg) (q : Int) : room ln pl (St.srt Msg.lane ms) q = room ln pl ms q := by unfold room cnt; rw [filt_srt]
theorem rputR_srt (ln pl : Int) (ms : List Msg) (m : Msg) : rputR ln pl (St.srt Msg.lane ms) m = ((putR ln pl ms m).1, St.srt Msg.lane (putR ln pl ms m).2) := by
  unfold rputR putR
  rw [room_srt]
  split
  · rfl
  · split
    · rfl
    · rw [St.srt_snoc]
theorem same_true {w : World} {ok1 ok2 : Nat → Prop} {v1 v2 : Value} {xs ys : Zs} (h1 : Rd 5 MsgC w ok1 v1 xs) (h2 : Rd 5 MsgC w ok2 v2 ys) (h : xs.map (·.2) = ys.map (·.2)) :
    Calls Try.prog 37 #[v1, v2] w fun e w' => e = .returned (.bool true) ∧ Ext No w w' := (same_spec h1 h2).mono fun e w' he => by simpa [h] using he
section
variable {P : Program} {n : Nat} {e : Env} {C : World → Prop} {ty t t2 : TypeId} {pos : String} {aft : Array Edge} {dst : Option Tmp} {gd : Option (Nat × Bool)} {x y : Operand} {kd : IntKind} {p q : Int}
theorem Y_eql_t (hx : opv e x = some (.int kd p)) (hy : opv e y = some (.int kd q)) (h : p = q) : Yl P C n e ⟨dst, .binOp .eql t x y t2, ty, pos, aft, gd⟩ (.bool true) := by have := Y_eql (P := P) (C := C) (n := n) (dst := dst) (t := t) (t2 := t2) (ty := ty) (pos := pos) (aft := aft) (gd := gd) hx hy; rwa [decide_eq_true h] at this
theorem Y_eql_f (hx : opv e x = some (.int kd p)) (hy : opv e y = some (.int kd q)) (h : ¬ p = q) : Yl P C n e ⟨dst, .binOp .eql t x y t2, ty, pos, aft, gd⟩ (.bool false) := by have := Y_eql (P := P) (C := C) (n := n) (dst := dst) (t := t) (t2 := t2) (ty := ty) (pos := pos) (aft := aft) (gd := gd) hx hy; rwa [decide_eq_false h] at this
theorem Y_neq_f (hx : opv e x = some (.int kd p)) (hy : opv e y = some (.int kd q)) (h : p = q) : Yl P C n e ⟨dst, .binOp .neq t x y t2, ty, pos, aft, gd⟩ (.bool false) := by have := Y_neq (P := P) (C := C) (n := n) (dst := dst) (t := t) (t2 := t2) (ty := ty) (pos := pos) (aft := aft) (gd := gd) hx hy; rwa [decide_eq_false (by simpa using h)] at this
theorem Y_neq_t (hx : opv e x = some (.int kd p)) (hy : opv e y = some (.int kd q)) (h : ¬ p = q) : Yl P C n e ⟨dst, .binOp .neq t x y t2, ty, pos, aft, gd⟩ (.bool true) := by have := Y_neq (P := P) (C := C) (n := n) (dst := dst) (t := t) (t2 := t2) (ty := ty) (pos := pos) (aft := aft) (gd := gd) hx hy; rwa [decide_eq_true (by simpa using h)] at this
end
end Go.Proofs.Ytmkpbbdocndfbaa
