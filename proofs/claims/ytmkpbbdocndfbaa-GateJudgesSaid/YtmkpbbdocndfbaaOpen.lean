/- What the arguments are, off their reading. -/
import Derived.Test.YtmkpbbdocndfbaaLives10
import Derived.Deep.Slices
import Derived.WalkKit
import Derived.ProofKit
import Derived.OpenShut
import Derived.ChangeOld
import Derived.Below
namespace Go.Proofs.Ytmkpbbdocndfbaa
open Go.RowKit Go.Proofs Go.ChangeShapes Go.WideShapes Go.Deep

abbrev All (_ : Nat) : Prop := True
def InI (n : Int) : Prop := -9223372036854775808 ≤ n ∧ n ≤ 9223372036854775807
section
variable {H : Type} {enc : TypeId × Value → H} {w : World} {base : Nat} {spare : Nat → Bool} {held : Bool} {fuel : Nat} {cs : List Value} {x : DataW H × List MemPlace}
theorem cell_keep {w w' : World} {a : Addr} {u : Value} (h : w.cell? a = some u) (hw : ∀ k, All k → k < w.heap.size → w'.heap[k]? = w.heap[k]?) : w'.cell? a = some u := by
  have hlt : a.block < w.heap.size := by
    rcases Nat.lt_or_ge a.block w.heap.size with h' | h'
    · exact h'
    · simp [World.cell?, Array.getElem?_eq_none h'] at h
  rw [World.cell?_of_block (w := w) (hw _ trivial hlt)]; exact h
theorem rd_int {t : TypeId} (ht : Try.prog.underlying t = some (.int .i64)) (h : DataW.trod enc Try.prog w base spare held fuel t cs = some x) : ∃ n, cs = [.int .i64 n] ∧ InI n := by
  cases fuel with
  | zero => simp [DataW.trod] at h
  | succ fuel =>
    unfold DataW.trod at h
    rw [ht] at h
    split at h <;> simp at *
    · rename_i h1
      subst h1
      obtain ⟨⟨rfl, hw⟩, _⟩ := h
      refine ⟨_, ⟨rfl, rfl⟩, ?_⟩
      simp [Lit.wf, IntKind.min, IntKind.max, IntKind.bits, IntKind.signed] at hw
      unfold InI; omega
/-- A slice of numbers. -/
theorem rd_ints (h : DataW.trod enc Try.prog w base spare held fuel 31 cs = some x) : ∃ v xs, cs = [v] ∧ Foot (fun w => RInts w v xs) w All ∧ ∀ n ∈ xs, InI n := by
  rcases open_slice1 Try.underlying31 (by kernel_rfl) h with ⟨hcs, _⟩ | ⟨a, len, cap, m, n, V, D, Pl, hcs, _, hl, hm, hmm, _, hx⟩
  · exact ⟨_, [], hcs, Foot.pure fun w => RRow.nil w 1, by simp⟩
  · have hlm : len ≤ m := by rw [hmm]; split <;> omega
    obtain ⟨f, hf⟩ := choose_lt (α := Int) (n := len) (p := fun i z => V i = .int .i64 z ∧ InI z) fun i hi => by
      obtain ⟨z, hz, hb⟩ := rd_int Try.underlying3 (hx i (by omega)).2
      exact ⟨z, by simpa using hz, hb⟩
    refine ⟨_, (List.range len).map f, hcs, fun w' hw' => ⟨some a, cap, by simp [ints], by simpa [ints] using hl, hm, ints_size _, fun i j ch u hi hj => ?_⟩, fun z hz => ?_⟩
    · simp only [ints, List.map_map, List.getElem?_map, Option.map_eq_some_iff] at hi
      obtain ⟨i', hi', rfl⟩ := hi
      obtain ⟨hil, rfl⟩ := List.getElem?_eq_some_iff.1 hi'
      simp only [List.length_range] at hil
      cases j with
      | zero =>
        simp at hj
        subst hj
        refine ⟨a, rfl, ?_⟩
        have h1 := cell_keep (hx i (by omega)).1 hw'
        rw [(hf i hil).1] at h1
        simpa using h1
      | succ j => simp at hj
    · obtain ⟨i, hi, rfl⟩ := List.mem_map.1 hz
      exact (hf i (List.mem_range.1 hi)).2
end
/-- A message as it comes in: of whatever many words. -/
def InM (m : Msg) : Prop := InI m.lane ∧ InI m.stamp ∧ InI m.late ∧ InI m.seq ∧ ∀ n ∈ m.words, InI n
section
variable {H : Type} {enc : TypeId × Value → H} {w : World} {base : Nat} {spare : Nat → Bool} {held : Bool} {fuel : Nat} {cs : List Value} {x : DataW H × List MemPlace}
theorem rd_field {t : TypeId} {fs : Array Field} (ht : Try.prog.underlying t = some (.struct fs)) (h : DataW.trod enc Try.prog w base spare held fuel t cs = some x) (i ty off sz : Nat) (hi : (fs[i]?).map (fun f => (f.type, f.offset)) = some (ty, off)) (hc : Try.prog.cellsOf ty = sz) : ∃ n y, DataW.trod enc Try.prog w base spare held n ty ((cs.drop off).take sz) = some y := by
  obtain ⟨xs, n, _, _, _, hxs, hf⟩ := DataW.trod_struct ht h
  cases hfi : fs[i]? with
  | none => rw [hfi] at hi; cases hi
  | some f =>
    rw [hfi] at hi
    cases hi
    have h1 := hf i f hfi
    have hlt : i < xs.length := by rw [hxs]; exact (Array.getElem?_eq_some_iff.1 hfi).1
    rw [List.getElem?_eq_getElem hlt, hc] at h1
    exact ⟨n, _, h1⟩
theorem rd_len {t : TypeId} {fs : Array Field} (ht : Try.prog.underlying t = some (.struct fs)) (h : DataW.trod enc Try.prog w base spare held fuel t cs = some x) : cs.length = Try.prog.cellsOf t := by
  obtain ⟨xs, n, _, _, hl, _⟩ := DataW.trod_struct ht h
  exact hl
theorem len5 {l : List Value} (h : l.length = 5) : ∃ a b c d e, l = [a, b, c, d, e] := by
  match l, h with
  | [a, b, c, d, e], _ => exact ⟨a, b, c, d, e, rfl⟩
theorem len7 {l : List Value} (h : l.length = 7) : ∃ a b c d e f g, l = [a, b, c, d, e, f, g] := by
  match l, h with
  | [a, b, c, d, e, f, g], _ => exact ⟨a, b, c, d, e, f, g, rfl⟩
theorem rd_msg (h : DataW.trod enc Try.prog w base spare held fuel 33 cs = some x) : ∃ ws m, cs = msgC ws m ∧ Foot (fun w => RInts w ws m.words) w All ∧ InM m := by
  obtain ⟨c0, c1, c2, c3, c4, rfl⟩ := len5 ((rd_len Try.underlying33 h).trans (by kernel_rfl))
  obtain ⟨_, _, h0⟩ := rd_field Try.underlying33 h 0 31 0 1 rfl (by kernel_rfl)
  obtain ⟨_, _, h1⟩ := rd_field Try.underlying33 h 1 3 1 1 rfl (by kernel_rfl)
  obtain ⟨_, _, h2⟩ := rd_field Try.underlying33 h 2 3 2 1 rfl (by kernel_rfl)
  obtain ⟨_, _, h3⟩ := rd_field Try.underlying33 h 3 3 3 1 rfl (by kernel_rfl)
  obtain ⟨_, _, h4⟩ := rd_field Try.underlying33 h 4 3 4 1 rfl (by kernel_rfl)
  obtain ⟨v, xs, e0, hF, hI⟩ := rd_ints (cs := [c0]) h0
  obtain ⟨n1, e1, b1⟩ := rd_int (cs := [c1]) Try.underlying3 h1
  obtain ⟨n2, e2, b2⟩ := rd_int (cs := [c2]) Try.underlying3 h2
  obtain ⟨n3, e3, b3⟩ := rd_int (cs := [c3]) Try.underlying3 h3
  obtain ⟨n4, e4, b4⟩ := rd_int (cs := [c4]) Try.underlying3 h4
  cases e0; cases e1; cases e2; cases e3; cases e4
  exact ⟨c0, ⟨xs, n1, n2, n3, n4⟩, rfl, hF, b1, b2, b3, b4, hI⟩
end
/-- A step of law 10. -/
structure Stp where
  kind : Int
  n : Int
  m : Msg
def stpC (ws : Value) (s : Stp) : List Value := .int .i64 s.kind :: .int .i64 s.n :: msgC ws s.m
def StpC (w : World) (cs : List Value) (s : Stp) : Prop := ∃ ws, cs = stpC ws s ∧ RInts w ws s.m.words
def InS (s : Stp) : Prop := InI s.kind ∧ InI s.n ∧ InM s.m
section
variable {H : Type} {enc : TypeId × Value → H} {w : World} {base : Nat} {spare : Nat → Bool} {held : Bool} {fuel : Nat} {cs : List Value} {x : DataW H × List MemPlace}
theorem rd_stp (h : DataW.trod enc Try.prog w base spare held fuel 35 cs = some x) : ∃ s, Foot (fun w => StpC w cs s) w All ∧ cs.length = 7 ∧ InS s := by
  obtain ⟨c0, c1, c2, c3, c4, c5, c6, rfl⟩ := len7 ((rd_len Try.underlying35 h).trans (by kernel_rfl))
  obtain ⟨_, _, h0⟩ := rd_field Try.underlying35 h 0 3 0 1 rfl (by kernel_rfl)
  obtain ⟨_, _, h1⟩ := rd_field Try.underlying35 h 1 3 1 1 rfl (by kernel_rfl)
  obtain ⟨_, _, h2⟩ := rd_field Try.underlying35 h 2 33 2 5 rfl (by kernel_rfl)
  obtain ⟨n0, e0, b0⟩ := rd_int (cs := [c0]) Try.underlying3 h0
  obtain ⟨n1, e1, b1⟩ := rd_int (cs := [c1]) Try.underlying3 h1
  obtain ⟨ws, m, e2, hF, hI⟩ := rd_msg (cs := [c2, c3, c4, c5, c6]) h2
  cases e0; cases e1
  exact ⟨⟨n0, n1, m⟩, hF.imp fun w hw => ⟨ws, by rw [e2]; rfl, hw⟩, rfl, b0, b1, hI⟩
/-- A slice of whatever. -/
theorem rd_rows {α : Type} [Inhabited α] {t e : TypeId} {sz : Nat} {el : World → List Value → α → Prop} {inb : α → Prop} (ht : Try.prog.underlying t = some (.slice e)) (hsz : Try.prog.cellsOf e = sz)
    (one : ∀ fuel cs x, DataW.trod enc Try.prog w base spare held fuel e cs = some x → ∃ s, Foot (fun w => el w cs s) w All ∧ cs.length = sz ∧ inb s)
    (h : DataW.trod enc Try.prog w base spare held fuel t cs = some x) : ∃ v zs, cs = [v] ∧ Rd sz el w All v zs ∧ ∀ z ∈ zs, inb z.2 := by
  rcases open_slice ht h with ⟨hcs, _⟩ | ⟨a, len, cap, m, n, D, Pl, hcs, _, hl, hm, hmm, _, hx⟩
  · exact ⟨_, [], hcs, Rd.nil _ _ _ _, by simp⟩
  · have hlm : len ≤ m := by rw [hmm]; split <;> omega
    rw [hsz] at hx
    obtain ⟨f, hf⟩ := choose_lt (α := List Value × α) (n := len) (p := fun i z => w.cells? base (a.add (i * sz)) sz = some z.1 ∧ Foot (fun w => el w z.1 z.2) w All ∧ z.1.length = sz ∧ inb z.2) fun i hi => by
      obtain ⟨cs', h1, h2⟩ := hx i (by omega)
      obtain ⟨s, h3, h4, h5⟩ := one _ _ _ h2
      exact ⟨(cs', s), h1, h3, h4, h5⟩
    refine ⟨_, (List.range len).map f, hcs, ⟨fun w' hw' => ⟨some a, cap, by simp, by simpa using hl, hm, fun ch hch => ?_, fun i j ch u hi hj => ?_⟩, fun z hz => ?_⟩, fun z hz => ?_⟩
    · simp only [List.map_map, List.mem_map, List.mem_range] at hch
      obtain ⟨i, hi, rfl⟩ := hch
      exact (hf i hi).2.2.1
    · simp only [List.map_map, List.getElem?_map, Option.map_eq_some_iff] at hi
      obtain ⟨i', hi', rfl⟩ := hi
      obtain ⟨hil, rfl⟩ := List.getElem?_eq_some_iff.1 hi'
      simp only [List.length_range] at hil
      simp only [List.getElem_range, Function.comp] at hj
      have hjl := (List.getElem?_eq_some_iff.1 hj).1
      rw [(hf i hil).2.2.1] at hjl
      obtain ⟨_, _, h2⟩ := World.cells?_some (hf i hil).1
      have h3 := h2 j hjl
      rw [hj] at h3
      have h4 := cell_keep h3 hw'
      rw [Deep.add_add] at h4
      exact ⟨a, rfl, h4⟩
    · obtain ⟨i, hi, rfl⟩ := List.mem_map.1 hz
      exact (hf i (List.mem_range.1 hi)).2.1
    · obtain ⟨i, hi, rfl⟩ := List.mem_map.1 hz
      exact (hf i (List.mem_range.1 hi)).2.2.2
instance : Inhabited Stp := ⟨⟨0, 0, ⟨[], 0, 0, 0, 0⟩⟩⟩
theorem rd_stps (h : DataW.trod enc Try.prog w base spare held fuel 22 cs = some x) : ∃ v zs, cs = [v] ∧ Rd 7 StpC w All v zs ∧ ∀ z ∈ zs, InS z.2 :=
  rd_rows Try.underlying22 (by kernel_rfl) (fun _ _ _ h => rd_stp h) h
end
end Go.Proofs.Ytmkpbbdocndfbaa
