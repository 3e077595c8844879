/- What the arguments are, off their reading. -/
import Derived.Test.YtmkpbbdocndfbaaUBD
import Derived.Deep.Slices
import Derived.WalkKit
import Derived.ProofKit
import Derived.OpenShut
import Derived.ChangeOld
import Derived.Below
namespace Go.Proofs.Ytmkpbbdocndfbaa
open Go.RowKit Go.Proofs Go.ChangeShapes Go.WideShapes Go.Deep

abbrev All (_ : Nat) : Prop := True
def InI (n : Int) : Prop := -9223372036854775808 ≤ n ∧ n ≤ 9223372036854775807
section
variable {H : Type} {enc : TypeId × Value → H} {w : World} {base : Nat} {spare : Nat → Bool} {held : Bool} {fuel : Nat} {cs : List Value} {x : DataW H × List MemPlace}
theorem cell_keep {w w' : World} {a : Addr} {u : Value} (h : w.cell? a = some u) (hw : ∀ k, All k → k < w.heap.size → w'.heap[k]? = w.heap[k]?) : w'.cell? a = some u := by
  have hlt : a.block < w.heap.size := by
    rcases Nat.lt_or_ge a.block w.heap.size with h' | h'
    · exact h'
    · simp [World.cell?, Array.getElem?_eq_none h'] at h
  rw [World.cell?_of_block (w := w) (hw _ trivial hlt)]; exact h
theorem rd_int {t : TypeId} (ht : Try.prog.underlying t = some (.int .i64)) (h : DataW.trod enc Try.prog w base spare held fuel t cs = some x) : ∃ n, cs = [.int .i64 n] ∧ InI n := by
  cases fuel with
  | zero => simp [DataW.trod] at h
  | succ fuel =>
    unfold DataW.trod at h
    rw [ht] at h
    split at h <;> simp at *
    · rename_i h1
      subst h1
      obtain ⟨⟨rfl, hw⟩, _⟩ := h
      refine ⟨_, ⟨rfl, rfl⟩, ?_⟩
      simp [Lit.wf, IntKind.min, IntKind.max, IntKind.bits, IntKind.signed] at hw
      unfold InI; omega
/-- A slice of numbers. -/
theorem rd_ints (h : DataW.trod enc Try.prog w base spare held fuel 31 cs = some x) : ∃ v xs, cs = [v] ∧ Foot (fun w => RInts w v xs) w All ∧ ∀ n ∈ xs, InI n := by
  rcases open_slice1 Try.underlying31 (by kernel_rfl) h with ⟨hcs, _⟩ | ⟨a, len, cap, m, n, V, D, Pl, hcs, _, hl, hm, hmm, _, hx⟩
  · exact ⟨_, [], hcs, Foot.pure fun w => RRow.nil w 1, by simp⟩
  · have hlm : len ≤ m := by rw [hmm]; split <;> omega
    obtain ⟨f, hf⟩ := choose_lt (α := Int) (n := len) (p := fun i z => V i = .int .i64 z ∧ InI z) fun i hi => by
      obtain ⟨z, hz, hb⟩ := rd_int Try.underlying3 (hx i (by omega)).2
      exact ⟨z, by simpa using hz, hb⟩
    refine ⟨_, (List.range len).map f, hcs, fun w' hw' => ⟨some a, cap, by simp [ints], by simpa [ints] using hl, hm, ints_size _, fun i j ch u hi hj => ?_⟩, fun z hz => ?_⟩
    · simp only [ints, List.map_map, List.getElem?_map, Option.map_eq_some_iff] at hi
      obtain ⟨i', hi', rfl⟩ := hi
      obtain ⟨hil, rfl⟩ := List.getElem?_eq_some_iff.1 hi'
      simp only [List.length_range] at hil
      cases j with
      | zero =>
        simp at hj
        subst hj
        refine ⟨a, rfl, ?_⟩
        have h1 := cell_keep (hx i (by omega)).1 hw'
        rw [(hf i hil).1] at h1
        simpa using h1
      | succ j => simp at hj
    · obtain ⟨i, hi, rfl⟩ := List.mem_map.1 hz
      exact (hf i (List.mem_range.1 hi)).2
end
/-- A message as it comes in: of whatever many words. -/
def InM (m : Msg) : Prop := InI m.lane ∧ InI m.stamp ∧ InI m.late ∧ InI m.seq ∧ ∀ n ∈ m.words, InI n
section
variable {H : Type} {enc : TypeId × Value → H} {w : World} {base : Nat} {spare : Nat → Bool} {held : Bool} {fuel : Nat} {cs : List Value} {x : DataW H × List MemPlace}
theorem rd_field {t : TypeId} {fs : Array Field} (ht : Try.prog.underlying t = some (.struct fs)) (h : DataW.trod enc Try.prog w base spare held fuel t cs = some x) (i ty off sz : Nat) (hi : (fs[i]?).map (fun f => (f.type, f.offset)) = some (ty, off)) (hc : Try.prog.cellsOf ty = sz) : ∃ n y, DataW.trod enc Try.prog w base spare held n ty ((cs.drop off).take sz) = some y := by
  obtain ⟨xs, n, _, _, _, hxs, hf⟩ := DataW.trod_struct ht h
  cases hfi : fs[i]? with
  | none => rw [hfi] at hi; cases hi
  | some f =>
    rw [hfi] at hi
    cases hi
    have h1 := hf i f hfi
    have hlt : i < xs.length := by rw [hxs]; exact (Array.getElem?_eq_some_iff.1 hfi).1
    rw [List.getElem?_eq_getElem hlt, hc] at h1
    exact ⟨n, _, h1⟩
theorem rd_len {t : TypeId} {fs : Array Field} (ht : Try.prog.underlying t = some (.struct fs)) (h : DataW.trod enc Try.prog w base spare held fuel t cs = some x) : cs.length = Try.prog.cellsOf t := by
  obtain ⟨xs, n, _, _, hl, _⟩ := DataW.trod_struct ht h
  exact hl
theorem len5 {l : List Value} (h : l.length = 5) : ∃ a b c d e, l = [a, b, c, d, e] := by
  match l, h with
  | [a, b, c, d, e], _ => exact ⟨a, b, c, d, e, rfl⟩
theorem len7 {l : List Value} (h : l.length = 7) : ∃ a b c d e f g, l = [a, b, c, d, e, f, g] := by
  match l, h with
  | [a, b, c, d, e, f, g], _ => exact ⟨a, b, c, d, e, f, g, rfl⟩
theorem rd_msg (h : DataW.trod enc Try.prog w base spare held fuel 33 cs = some x) : ∃ ws m, cs = msgC ws m ∧ Foot (fun w => RInts w ws m.words) w All ∧ InM m := by
  obtain ⟨c0, c1, c2, c3, c4, rfl⟩ := len5 ((rd_len Try.underlying33 h).trans (by kernel_rfl))
  obtain ⟨_, _, h0⟩ := rd_field Try.underlying33 h 0 31 0 1 rfl (by kernel_rfl)
  obtain ⟨_, _, h1⟩ := rd_field Try.underlying33 h 1 3 1 1 rfl (by kernel_rfl)
  obtain ⟨_, _, h2⟩ := rd_field Try.underlying33 h 2 3 2 1 rfl (by kernel_rfl)
  obtain ⟨_, _, h3⟩ := rd_field Try.underlying33 h 3 3 3 1 rfl (by kernel_rfl)
  obtain ⟨_, _, h4⟩ := rd_field Try.underlying33 h 4 3 4 1 rfl (by kernel_rfl)
  obtain ⟨v, xs, e0, hF, hI⟩ := rd_ints (cs := [c0]) h0
  obtain ⟨n1, e1, b1⟩ := rd_int (cs := [c1]) Try.underlying3 h1
  obtain ⟨n2, e2, b2⟩ := rd_int (cs := [c2]) Try.underlying3 h2
  obtain ⟨n3, e3, b3⟩ := rd_int (cs := [c3]) Try.underlying3 h3
  obtain ⟨n4, e4, b4⟩ := rd_int (cs := [c4]) Try.underlying3 h4
  cases e0; cases e1; cases e2; cases e3; cases e4
  exact ⟨c0, ⟨xs, n1, n2, n3, n4⟩, rfl, hF, b1, b2, b3, b4, hI⟩
end
/-- A step of law 10. -/
structure Stp where
  kind : Int
  n : Int
  m : Msg
def stpC (ws : Value) (s : Stp) : List Value := .int .i64 s.kind :: .int .i64 s.n :: msgC ws s.m
def StpC (w : World) (cs : List Value) (s : Stp) : Prop := ∃ ws, cs = stpC ws s ∧ RInts w ws s.m.words
def InS (s : Stp) : Prop := InI s.kind ∧ InI s.n ∧ InM s.m
section
variable {H : Type} {enc : TypeId × Value → H} {w : World} {base : Nat} {spare : Nat → Bool} {held : Bool} {fuel : Nat} {cs : List Value} {x : DataW H × List MemPlace}
theorem rd_stp (h : DataW.trod enc Try.prog w base spare held fuel 35 cs = some x) : ∃ s, Foot (fun w => StpC w cs s) w All ∧ cs.length = 7 ∧ InS s := by
  obtain ⟨c0, c1, c2, c3, c4, c5, c6, rfl⟩ := len7 ((rd_len Try.underlying35 h).trans (by kernel_rfl))
  obtain ⟨_, _, h0⟩ := rd_field Try.underlying35 h 0 3 0 1 rfl (by kernel_rfl)
  obtain ⟨_, _, h1⟩ := rd_field Try.underlying35 h 1 3 1 1 rfl (by kernel_rfl)
  obtain ⟨_, _, h2⟩ := rd_field Try.underlying35 h 2 33 2 5 rfl (by kernel_rfl)
  obtain ⟨n0, e0, b0⟩ := rd_int (cs := [c0]) Try.underlying3 h0
  obtain ⟨n1, e1, b1⟩ := rd_int (cs := [c1]) Try.underlying3 h1
  obtain ⟨ws, m, e2, hF, hI⟩ := rd_msg (cs := [c2, c3, c4, c5, c6]) h2
  cases e0; cases e1
  exact ⟨⟨n0, n1, m⟩, hF.imp fun w hw => ⟨ws, by rw [e2]; rfl, hw⟩, rfl, b0, b1, hI⟩
/-- A slice of whatever. -/
theorem rd_rows {α : Type} [Inhabited α] {t e : TypeId} {sz : Nat} {el : World → List Value → α → Prop} {inb : α → Prop} (ht : Try.prog.underlying t = some (.slice e)) (hsz : Try.prog.cellsOf e = sz)
    (one : ∀ fuel cs x, DataW.trod enc Try.prog w base spare held fuel e cs = some x → ∃ s, Foot (fun w => el w cs s) w All ∧ cs.length = sz ∧ inb s)
    (h : DataW.trod enc Try.prog w base spare held fuel t cs = some x) : ∃ v zs, cs = [v] ∧ Rd sz el w All v zs ∧ ∀ z ∈ zs, inb z.2 := by
  rcases open_slice ht h with ⟨hcs, _⟩ | ⟨a, len, cap, m, n, D, Pl, hcs, _, hl, hm, hmm, _, hx⟩
  · exact ⟨_, [], hcs, Rd.nil _ _ _ _, by simp⟩
  · have hlm : len ≤ m := by rw [hmm]; split <;> omega
    rw [hsz] at hx
    obtain ⟨f, hf⟩ := choose_lt (α := List Value × α) (n := len) (p := fun i z => w.cells? base (a.add (i * sz)) sz = some z.1 ∧ Foot (fun w => el w z.1 z.2) w All ∧ z.1.length = sz ∧ inb z.2) fun i hi => by
      obtain ⟨cs', h1, h2⟩ := hx i (by omega)
      obtain ⟨s, h3, h4, h5⟩ := one _ _ _ h2
      exact ⟨(cs', s), h1, h3, h4, h5⟩
    refine ⟨_, (List.range len).map f, hcs, ⟨fun w' hw' => ⟨some a, cap, by simp, by simpa using hl, hm, fun ch hch => ?_, fun i j ch u hi hj => ?_⟩, fun z hz => ?_⟩, fun z hz => ?_⟩
    · simp only [List.map_map, List.mem_map, List.mem_range] at hch
      obtain ⟨i, hi, rfl⟩ := hch
      exact (hf i hi).2.2.1
    · simp only [List.map_map, List.getElem?_map, Option.map_eq_some_iff] at hi
      obtain ⟨i', hi', rfl⟩ := hi
      obtain ⟨hil, rfl⟩ := List.getElem?_eq_some_iff.1 hi'
      simp only [List.length_range] at hil
      simp only [List.getElem_range, Function.comp] at hj
      have hjl := (List.getElem?_eq_some_iff.1 hj).1
      rw [(hf i hil).2.2.1] at hjl
      obtain ⟨_, _, h2⟩ := World.cells?_some (hf i hil).1
      have h3 := h2 j hjl
      rw [hj] at h3
      have h4 := cell_keep h3 hw'
      rw [Deep.add_add] at h4
      exact ⟨a, rfl, h4⟩
    · obtain ⟨i, hi, rfl⟩ := List.mem_map.1 hz
      exact (hf i (List.mem_range.1 hi)).2.1
    · obtain ⟨i, hi, rfl⟩ := List.mem_map.1 hz
      exact (hf i (List.mem_range.1 hi)).2.2.2
instance : Inhabited Stp := ⟨⟨0, 0, ⟨[], 0, 0, 0, 0⟩⟩⟩
theorem rd_stps (h : DataW.trod enc Try.prog w base spare held fuel 22 cs = some x) : ∃ v zs, cs = [v] ∧ Rd 7 StpC w All v zs ∧ ∀ z ∈ zs, InS z.2 :=
  rd_rows Try.underlying22 (by kernel_rfl) (fun _ _ _ h => rd_stp h) h
end
end Go.Proofs.Ytmkpbbdocndfbaa
/- law 10: the steps' messages. -/
namespace Go.Proofs.Ytmkpbbdocndfbaa
open Go.RowKit Go.Proofs
attribute [local irreducible] Yl JL J G GL GA GQ DR

/-- A message of at most eight words. -/
def Msg.cut8 (m : Msg) : Msg := { m with words := m.words.take 8 }
theorem cut8_len (m : Msg) : m.cut8.words.length ≤ 8 := by simp [Msg.cut8]; omega
theorem StpC.open_ {w : World} {ok : Nat → Prop} {cs : List Value} {s : Stp} (h : Foot (fun w => StpC w cs s) w ok) : ∃ ws, cs = stpC ws s ∧ Foot (fun w => RInts w ws s.m.words) w ok ∧ ws.oneCell' = true := by
  obtain ⟨ws, hc, hr⟩ := h.now
  refine ⟨ws, hc, h.imp fun w' hw => ?_, hr.one⟩
  obtain ⟨ws', hc', hr'⟩ := hw
  rw [hc] at hc'
  have : ws = ws' := by simp [stpC, msgC] at hc'; exact hc'
  rw [this]; exact hr'
/-- Step.message. -/
theorem message10_spec {w : World} {ok : Nat → Prop} {ws : Value} {s : Stp} (h : Foot (fun w => RInts w ws s.m.words) w ok) :
    Calls Try.prog 30 #[.agg (stpC ws s).toArray] w fun e w' => ∃ r, e = .returned r ∧ Ext No w w' ∧ ∃ ws', r = .agg (msgC ws' s.m.cut8).toArray ∧ Foot (fun w => RInts w ws' s.m.cut8.words) w' ok ∧ ws'.oneCell' = true := by
  obtain ⟨A, c, rfl, hc, hm⟩ := h.now.slice
  refine Calls.of_G1 Try.func30 rfl Try.ntmps30 rfl ?_
  refine J.at (C := Cls w No []) ?_ (Cls.start _ _)
  unfold stpC msgC
  repeat (first | (apply JL.y; (apply Y_fieldAddr; rfl; rfl); rfl) | refine J.seq ?_ | refine J.region ?_ | refine JL.nil ?_ | (apply JL.box; rfl; rfl; rfl; intro _) | (apply JL.alloc; rfl; rfl; intro _))
  (apply JL.y; (apply Y_loadS 1; rfl; rfl; exact inferInstance; exact (rfl : _ = [Value.slice A s.m.words.length c, .int .i64 s.m.lane, .int .i64 s.m.stamp, .int .i64 s.m.late, .int .i64 s.m.seq]); rfl); rfl)
  repeat (first | (apply JL.y; (first | (apply Y_fieldAddr; rfl; rfl) | (apply Y_load1 0; rfl; rfl; rfl; exact inferInstance) | (apply Y_len; rfl) | (apply Y_min; rfl; rfl)); rfl) | refine J.seq ?_ | refine J.region ?_ | refine JL.nil ?_ | (apply JL.alloc; rfl; rfl; intro _) | (apply JL.store; (apply St_W 0; rfl; rfl; rfl; exact inferInstance; rfl; rfl; (first | (focus (simp [Value.oneCell']; done)) | (simp [Value.oneCell']; assumption) | (simp [Value.oneCell']; exact ⟨by assumption, by assumption⟩)); (first | (focus (simp only [List.set_cons_zero]; done)) | (simp only [List.set_cons_zero]; rfl)))))
  apply JL.y (Y_slice_h rfl rfl (by omega)) rfl
  repeat (first | (apply JL.y; (first | (apply Y_fieldAddr; rfl; rfl) | (apply Y_loadW 0; rfl; rfl; exact inferInstance; rfl)); rfl) | refine J.seq ?_ | refine J.region ?_ | refine JL.nil ?_ | (apply JL.store; (first | (apply St_1 0; rfl; rfl; exact inferInstance; (first | rfl | assumption); rfl; rfl; (first | (focus (simp only [List.set_cons_zero]; done)) | (simp only [List.set_cons_zero]; rfl))) | (apply St_W 1; rfl; rfl; rfl; exact inferInstance; rfl; rfl; (first | (focus (simp [Value.oneCell']; done)) | (simp [Value.oneCell']; assumption) | (simp [Value.oneCell']; exact ⟨by assumption, by assumption⟩)); (first | (focus (simp only [List.set_cons_zero, List.set_cons_succ]; done)) | (simp only [List.set_cons_zero, List.set_cons_succ]; rfl))))))
  have hmin : (min (s.m.words.length : Int) 8).toNat = (s.m.words.take 8).length := by rw [List.length_take]; omega
  rw [hmin]
  refine J.ret1 Try.func30 Try.results30 (RV.W 1 rfl rfl rfl) fun w' hw' => ⟨_, rfl, hw'.ext, .slice A (s.m.words.take 8).length c, rfl, (h.imp fun w hw => ?_).ext0 hw'.ext, rfl⟩
  have h1 := RRow.take hw (i := (s.m.words.take 8).length) (by rw [ints_len, List.length_take]; omega)
  unfold RInts
  have h2 : ints s.m.cut8.words = (ints s.m.words).take (s.m.words.take 8).length := by
    simp only [Msg.cut8, ints, List.map_take, List.length_take]
    rcases Nat.le_total 8 s.m.words.length with h8 | h8
    · rw [Nat.min_eq_left h8]
    · rw [Nat.min_eq_right h8, List.take_of_length_le (by simpa using h8), List.take_of_length_le (by simp)]
  rw [h2]; exact h1
end Go.Proofs.Ytmkpbbdocndfbaa
/- More on classes of worlds, rows, comparisons that are true. -/
namespace Go.Proofs.Ytmkpbbdocndfbaa
open Go.RowKit Go.Proofs
attribute [local irreducible] Yl JL J G GL GA GQ DR

theorem Cls.start2 {x y : Blk} {w : World} (hx : BlkIn w x) (hy : BlkIn w y) (hn : y.b ≠ x.b) : Cls w (fun k => k = x.b ∨ k = y.b) [x, y] w := ⟨.refl _ _, by simp [hx, hy], ⟨by simp [hn], by simp, trivial⟩, by simp⟩
theorem Cls.start3 {x y z : Blk} {w : World} (hx : BlkIn w x) (hy : BlkIn w y) (hz : BlkIn w z) (h1 : y.b ≠ x.b) (h2 : z.b ≠ x.b) (h3 : z.b ≠ y.b) : Cls w (fun k => k = x.b ∨ k = y.b ∨ k = z.b) [x, y, z] w :=
  ⟨.refl _ _, by simp [hx, hy, hz], ⟨by simp [h1, h2], by simp [h3], by simp, trivial⟩, by simp⟩
theorem Cls.start4 {x y z u : Blk} {w : World} (hx : BlkIn w x) (hy : BlkIn w y) (hz : BlkIn w z) (hu : BlkIn w u) (h1 : y.b ≠ x.b) (h2 : z.b ≠ x.b) (h3 : z.b ≠ y.b) (h4 : u.b ≠ x.b) (h5 : u.b ≠ y.b) (h6 : u.b ≠ z.b) : Cls w (fun k => k = x.b ∨ k = y.b ∨ k = z.b ∨ k = u.b) [x, y, z, u] w :=
  ⟨.refl _ _, by simp [hx, hy, hz, hu], ⟨by simp [h1, h2, h4], by simp [h3, h5], by simp [h6], by simp, trivial⟩, by simp⟩
/-- A block that is known and none of D's is new. -/
theorem Cls.fresh {w0 w : World} {D : Nat → Prop} {x : Blk} {H : List Blk} (h : Cls w0 D (x :: H) w) (hD : ∀ k, D k → ∃ y ∈ H, y.b = k) : w0.heap.size ≤ x.b := by
  rcases h.mine x (.head _) with h1 | h1
  · obtain ⟨y, hy, he⟩ := hD _ h1
    exact absurd he (h.apart.1 y hy)
  · exact h1
/-- Behind what turned blocks made since w0, but none that is known. -/
theorem Cls.extA {w0 w w1 : World} {D D2 : Nat → Prop} {H : List Blk} (h : Cls w0 D H w) (he : Ext D2 w w1) (h1 : ∀ k, k < w0.heap.size → D2 k → D k) (h2 : ∀ x ∈ H, ¬ D2 x.b) : Cls w0 D H w1 :=
  ⟨h.ext.then he h1, fun x hx => (h.has x hx).keep he (h2 x hx), h.apart, h.mine⟩
/-- Where a row lies whose truth hangs on some blocks alone. -/
theorem Foot.row_in {w : World} {ok : Nat → Prop} {e sz : Nat} {v : Value} {chs : List (List Value)} (h : Foot (fun w => Row w e sz v chs) w ok) (hn : 0 < chs.length) (hs : 0 < sz) {g : Nat} (hg : v.ownBlock = some g) : ok g := by
  apply Classical.byContradiction
  intro hno
  have h1 := h { w with heap := w.heap.setIfInBounds g (.cells #[] e) } fun k hk _ => by
    rw [Array.getElem?_setIfInBounds_ne]
    intro hkg
    subst hkg
    exact hno hk
  obtain ⟨g', cap, cur, hv, hb, hc1, _, hc3, _⟩ := h1.block hn
  rw [hv] at hg
  simp [Value.ownBlock] at hg
  subst hg
  obtain ⟨g2, cap2, cur2, hv2, hb2, _⟩ := h.now.block hn
  rw [hv] at hv2
  injection hv2 with e1
  injection e1 with e1
  injection e1 with e1
  subst e1
  have hlt := (Array.getElem?_eq_some_iff.1 hb2).1
  rw [Array.getElem?_setIfInBounds_self_of_lt hlt] at hb
  cases hb
  have : 0 < cap * sz := Nat.mul_pos (by omega) hs
  simp at hc3
  omega
theorem one_true {w : World} {ok1 ok2 : Nat → Prop} {v1 v2 : Value} {m : Msg} (h1 : Foot (fun w => RMsg w v1 m) w ok1) (h2 : Foot (fun w => RMsg w v2 m) w ok2) :
    Calls Try.prog 35 #[v1, v2] w fun e w' => e = .returned (.bool true) ∧ Ext No w w' := (one_spec h1 h2).mono fun e w' he => by simpa using he
theorem laneSame_true {w : World} {ok1 ok2 : Nat → Prop} {v1 v2 : Value} {xs ys : List (List Value × Msg)} (h1 : Rd 5 MsgC w ok1 v1 xs) (h2 : Rd 5 MsgC w ok2 v2 ys) (h : xs.map (·.2) = ys.map (·.2)) :
    Calls Try.prog 47 #[v1, v2] w fun e w' => e = .returned (.bool true) ∧ Ext No w w' := (laneSame_spec h1 h2).mono fun e w' he => by simpa [h] using he
theorem Rd.of_blk1 {w : World} {b : Nat} {t : TypeId} {ws : Value} {m : Msg} {ok : Nat → Prop} (h : BlkIn w ⟨b, msgC ws m, t⟩) (hw : Foot (fun w => RInts w ws m.words) w ok) (hl : m.words.length ≤ 8) : Rd 5 MsgC w All (.slice (some ⟨b, 0, none⟩) 1 1) [(msgC ws m, m)] := by
  refine ⟨(h.foot.imp fun w hw => ?_).mono fun _ _ _ => trivial, fun z hz => ?_⟩
  · exact (Row.of_blk (el := t) (sz := 5) (chs := [msgC ws m]) hw (by simp) (by simp [msgC]) rfl (by simp [maxLen])).rrow
  · simp at hz; subst hz
    exact (MsgC.mk hw hl).mono fun _ _ _ => trivial

/-- Where all that may have turned is known, and as it was, nothing has turned. -/
theorem Cls.still {w0 w : World} {D : Nat → Prop} {H : List Blk} (h : Cls w0 D H w) (h0 : ∀ k, D k → ∃ x ∈ H, x.b = k ∧ BlkIn w0 x) : Ext No w0 w :=
  ⟨h.ext.os, h.ext.tape, h.ext.output, h.ext.size, fun k hk _ => by
    by_cases hd : D k
    · obtain ⟨x, hx, rfl, h1⟩ := h0 k hd
      exact (h.has x hx).trans h1.symm
    · exact h.ext.block k hk hd⟩
theorem MsgN.open_ {w : World} {ok : Nat → Prop} {cs : List Value} {m : Msg} (h : Foot (fun w => MsgN w cs m) w ok) : ∃ ws, cs = msgC ws m ∧ Foot (fun w => Row w 3 1 ws (ints m.words)) w ok ∧ m.words.length ≤ 8 := by
  obtain ⟨ws, hv, hi, hl⟩ := h.now
  refine ⟨ws, hv, h.imp fun w' hw => ?_, hl⟩
  obtain ⟨ws', hv', hi', _⟩ := hw
  rw [hv] at hv'
  simp [msgC] at hv'
  subst hv'
  exact hi'
/-- One number of a row of one's own is stored. -/
theorem Row.setInt {w : World} {g m c i : Nat} {ys : List Int} (h : Row w 3 1 (.slice (some ⟨g, 0, none⟩) m c) (ints ys)) (hi : i < ys.length) (y : Int) :
    ∃ w', (storeVar 3 ⟨g, i, none⟩ (.int .i64 y)).run Try.prog w = .ok () w' ∧ Row w' 3 1 (.slice (some ⟨g, 0, none⟩) m c) (ints (ys.set i y)) ∧ Ext (fun k => k = g) w w' := by
  obtain ⟨w', h1, h2, h3⟩ := Row.store (P := Try.prog) (t := 3) h rfl (i := i) (by rw [ints_len]; exact hi) (x := .int .i64 y) (l := [.int .i64 y]) rfl rfl (by simp [Value.oneCell'])
  rw [add_lit, Nat.zero_add, Nat.mul_one] at h1
  refine ⟨w', h1, ?_, h3⟩
  rw [show ints (ys.set i y) = (ints ys).set i [.int .i64 y] by rw [ints, List.map_set]; rfl]
  exact h2
theorem Row.ldsInt {w : World} {g m c i : Nat} {ys : List Int} {y : Int} (h : Row w 3 1 (.slice (some ⟨g, 0, none⟩) m c) (ints ys)) (hi : ys[i]? = some y) : Lds Try.prog 3 ⟨g, i, none⟩ (.int .i64 y) w := by
  obtain ⟨g', cap, hv, hc⟩ := Row.cell h (i := i) (j := 0) (ints_at hi) rfl
  cases hv
  exact lds_one (by simpa using hc)
end Go.Proofs.Ytmkpbbdocndfbaa
/- Plain lists: what the document's lanes do to a sorted list (no program in sight). -/
namespace Go.Proofs.Ytmkpbbdocndfbaa
open Go.RowKit Go.Proofs

namespace St
theorem Srt.sub {τ : Type} {key : τ → Int} {l l' : List τ} (h : Srt key l) (hs : l'.Sublist l) : Srt key l' := List.Pairwise.sublist hs h
theorem srt_filter {τ : Type} {key : τ → Int} (p : τ → Bool) (l : List τ) : srt key ((srt key l).filter p) = (srt key l).filter p := srt_id ((srt_srt l).sub List.filter_sublist)
theorem srt_drop {τ : Type} {key : τ → Int} (n : Nat) (l : List τ) : srt key ((srt key l).drop n) = (srt key l).drop n := srt_id ((srt_srt l).sub (List.drop_sublist _ _))
/-- Where the new one goes. -/
theorem ins_at {τ : Type} {key : τ → Int} {x : τ} {l : List τ} (h : Srt key l) {i : Nat} (hi : i ≤ l.length) (ha : ∀ j y, i ≤ j → l[j]? = some y → key x < key y) (hb : ∀ y, 0 < i → l[i - 1]? = some y → key y ≤ key x) : ins key x l = l.take i ++ x :: l.drop i := by
  conv => lhs; rw [← List.take_append_drop i l]
  refine ins_split (fun y hy => ?_) (fun y hy => ?_)
  · have h0 : 0 < i := by
      rcases Nat.eq_zero_or_pos i with h0 | h0
      · subst h0; simp at hy
      · exact h0
    obtain ⟨j, hj⟩ := List.mem_iff_getElem?.1 hy
    rw [List.getElem?_take] at hj
    split at hj
    · rename_i hji
      have hl : i - 1 < l.length := by omega
      have h1 := hb _ h0 (List.getElem?_eq_getElem hl)
      rcases Nat.lt_or_ge j (i - 1) with hlt | hge
      · have h2 := (List.pairwise_iff_getElem.1 h) j (i - 1) (by omega) hl hlt
        rw [List.getElem?_eq_getElem (by omega)] at hj
        cases hj
        omega
      · have : j = i - 1 := by omega
        subst this
        rw [List.getElem?_eq_getElem hl] at hj
        cases hj
        exact h1
    · cases hj
  · rw [List.head?_drop] at hy
    exact ha i y (Nat.le_refl _) hy
end St
theorem takeR_drop (l : List Msg) : (takeR l).2.2 = l.drop 1 := by cases l <;> rfl
end Go.Proofs.Ytmkpbbdocndfbaa
/- The document's lanes (empennageref10): what each function computes. -/
namespace Go.Proofs.Ytmkpbbdocndfbaa
open Go.RowKit Go.Proofs
attribute [local irreducible] Yl JL J G GL GA GQ DR

section
variable {P : Program} {n : Nat} {e : Env} {C : World → Prop} {ty t el sz : Nat} {pos : String} {aft : Array Edge} {dst : Option Tmp} {gd : Option (Nat × Bool)} {x y : Operand}
theorem Y_fieldAddrG {i off : Nat} [h : FI P t i off] {a : Addr} (hx : opv e x = some (.pointer (some a))) : Yl P C n e ⟨dst, .fieldAddr t x i, ty, pos, aft, gd⟩ (.pointer (some (a.add off))) := by
  unfold Yl
  intro ac w ha _
  simp [execOp, ha.eval hx, h.run]
theorem run_appendN [h : SI P t el sz] {A B : Option Addr} {m c c' : Nat} (hm : m ≤ c) (w : World) : (Builtin.append_ #[t, t] ty #[.slice B m c, .slice A 0 c']).run P w = .ok (.slice B m c) w := by
  cases A <;> cases B <;> simp [Builtin.append_, run_underlying h.und, h.sizeOf, Builtin.lenOf, Builtin.firstCells, loadCells, loadCellsFrom, hm, storeCells]
theorem Y_appendN [h : SI P t el sz] {A B : Option Addr} {m c c' : Nat} (hx : opv e x = some (.slice B m c)) (hy : opv e y = some (.slice A 0 c')) (hm : m ≤ c) : Yl P C n e ⟨dst, .call { callee := .builtin .append, args := #[x, y], argTypes := #[t, t] }, ty, pos, aft, gd⟩ (.slice B m c) := by
  unfold Yl
  intro a w ha _
  simp [execOp, resolve, invoke, builtin, ha.eval hx, ha.eval hy, run_appendN (P := P) (t := t) hm]
end
/-- One cell of an element. -/
theorem Rd.ldsF {α : Type} {el : World → List Value → α → Prop} {P : Program} {t : TypeId} {zv v : Value} {sz s m c : Nat} {ok : Nat → Prop} {w : World} {zs : List (List Value × α)} {ad : Addr} [ht : TI P t false s zv] (h : Rd sz el w ok (.slice (some ad) m c) zs) {i j : Nat} {z : List Value × α} (hi : zs[i]? = some z) (hj : z.1[j]? = some v) :
    Foot (Lds P t ((ad.add (i * sz)).add j) v) w ok :=
  h.row.imp fun w hw => by
    have hz : (zs.map (·.1))[i]? = Option.some z.1 := by simp [hi]
    obtain ⟨ad', h2, h3⟩ := hw.cell hz hj
    cases h2
    rw [add_add]
    exact lds_one h3

/-- A list made since w0, of messages whose words lie in ok, in what was there. -/
structure Lk (ok : Nat → Prop) (w0 w : World) (v : Value) (zs : Zs) : Prop where
  own : Own 33 5 MsgC w (fun k => ok k ∧ k < w0.heap.size) v zs
  new : ∀ k, v.ownBlock = some k → w0.heap.size ≤ k
section
variable {ok : Nat → Prop} {w0 w w1 : World} {v v' : Value} {zs : Zs} {D : Nat → Prop}
theorem Lk.nil (ok : Nat → Prop) (w0 w : World) : Lk ok w0 w (.slice none 0 0) [] := ⟨Own.nil _ _ _ _ _, fun k hk => by simp [Value.ownBlock] at hk⟩
theorem Lk.ext (h : Lk ok w0 w v zs) (he : Ext D w w1) (hD : ∀ k, k < w.heap.size → D k → w0.heap.size ≤ k ∧ v.ownBlock ≠ some k) : Lk ok w0 w1 v zs :=
  ⟨h.own.ext he (fun g hg hd => (hD g (h.own.row.lt hg) hd).2 hg) (fun k hk ho hd => by have := (hD k hk hd).1; omega), h.new⟩
theorem Lk.ext0 (h : Lk ok w0 w v zs) (he : Ext No w w1) : Lk ok w0 w1 v zs := h.ext he fun _ _ h => h.elim
theorem Lk.app (h : Lk ok w0 w v zs) {c : List Value} {m : Msg} (hrow : Row w1 33 5 v' (zs.map (·.1) ++ [c])) (ha : Apd w w1 v v') (hx : Foot (fun w => MsgC w c m) w (fun k => ok k ∧ k < w0.heap.size)) (hs : w0.heap.size ≤ w.heap.size) : Lk ok w0 w1 v' (zs ++ [(c, m)]) := by
  have hn : ∀ k, v'.ownBlock = some k → w0.heap.size ≤ k := fun k hk => by
    rcases ha.at_ with h1 | h1 <;> rw [h1] at hk
    · exact h.new k hk
    · injection hk with hk; omega
  refine ⟨(h.own.append hrow ha hx fun k _ hk hv => by have := h.new k hv; omega).mono (fun k _ hk => by rcases hk.1 with h1 | h1 <;> exact h1) (fun k hk hv => by have := hn k hv; omega), hn⟩
/-- An append of many. -/
theorem Lk.apps (h : Lk ok w0 w v zs) {ys : Zs} (hrow : Row w1 33 5 v' (zs.map (·.1) ++ ys.map (·.1))) (ha : Apd w w1 v v') (hx : ∀ y ∈ ys, Foot (fun w => MsgC w y.1 y.2) w (fun k => ok k ∧ k < w0.heap.size)) (hs : w0.heap.size ≤ w.heap.size) : Lk ok w0 w1 v' (zs ++ ys) := by
  have hn : ∀ k, v'.ownBlock = some k → w0.heap.size ≤ k := fun k hk => by
    rcases ha.at_ with h1 | h1 <;> rw [h1] at hk
    · exact h.new k hk
    · injection hk with hk; omega
  refine ⟨⟨by simpa using hrow, fun z hz => ?_, fun k hk hv => by have := hn k hv; omega⟩, hn⟩
  rcases List.mem_append.1 hz with hz | hz
  · exact (h.own.el z hz).ext ha.ext fun k _ hk hv => by have := h.new k hv; omega
  · exact (hx z hz).ext ha.ext fun k _ hk hv => by have := h.new k hv; omega
theorem Lk.rd (h : Lk ok w0 w v zs) : Rd 5 MsgC w (fun k => (ok k ∧ k < w0.heap.size) ∨ w0.heap.size ≤ k) v zs := h.own.reads.mono fun k _ hk => hk.imp id (h.new k)
end

/-- The document's lanes, as cells. -/
def rlC (ln pl : Int) (v : Value) : List Value := [.int .i64 ln, .int .i64 pl, v]
def kd8 (k : Int) : Int := (IntKind.u64.wrap k).tmod 8
theorem kd8_in (k : Int) : 0 ≤ kd8 k ∧ kd8 k < 8 := ⟨Int.tmod_nonneg _ (wrap_u64_nonneg k), Int.tmod_lt_of_pos _ (by decide)⟩

/-- empennageref10.New. -/
theorem rNew_spec (ln pl : Int) (w : World) : Calls Try.prog 26 #[.int .i64 ln, .int .i64 pl] w fun e w' => e = .returned (.agg (rlC (cl 1 3 ln) (cl 1 8 pl) (.slice none 0 0)).toArray) ∧ Ext No w w' := by
  refine Calls.of_G2 Try.func26 rfl Try.ntmps26 rfl ?_
  refine J.at (C := Cls w No []) ?_ (Cls.start _ _)
  repeat (first | (apply JL.y; (first | (apply Y_move; rfl) | (apply Y_min; rfl; rfl) | (apply Y_max; rfl; rfl) | (apply Y_build; rfl; exact inferInstance)); rfl) | refine J.seq ?_ | refine J.region ?_ | refine JL.nil ?_ | (apply JL.alloc; rfl; rfl; intro _) | (apply JL.store; (apply St_W 0; rfl; rfl; rfl; exact inferInstance; rfl; rfl; (first | (focus (simp [Value.oneCell']; done)) | (simp [Value.oneCell']; assumption) | (simp [Value.oneCell']; exact ⟨by assumption, by assumption⟩)); (first | (focus (simp only [List.set_cons_zero]; done)) | (simp only [List.set_cons_zero]; rfl)))))
  exact J.ret1 Try.func26 Try.results26 (RV.W 0 rfl rfl rfl) fun w' hw' => ⟨rfl, hw'.ext⟩
/-- early, of law 10. -/
theorem early10_spec {A : Option Addr} {m c : Nat} (hm : m ≤ c) (w : World) : Calls Try.prog 27 #[.slice A m c] w fun e w' => e = .returned (.slice A (min m 80) c) ∧ Ext No w w' := by
  refine Calls.of_G1 Try.func27 rfl Try.ntmps27 rfl ?_
  refine J.at (C := Cls w No []) ?_ (Cls.start _ _)
  repeat (first | (apply JL.y; (first | (apply Y_move; rfl) | (apply Y_assign; rfl) | (apply Y_len; rfl) | (apply Y_min; rfl; rfl)); rfl) | refine J.seq ?_ | refine J.region ?_ | refine JL.nil ?_)
  apply JL.y (Y_slice_h rfl rfl (by omega)) rfl
  rw [show (min (m : Int) 80).toNat = min m 80 by omega]
  repeat (first | (apply JL.y; (apply Y_assign; rfl); rfl) | refine JL.nil ?_)
  exact J.ret1 Try.func27 Try.results27 (RV.tm rfl) fun w' hw => ⟨rfl, hw.ext⟩
/-- Step.kind, of law 10. -/
theorem kind10_spec (ws : Value) (s : Stp) (w : World) : Calls Try.prog 28 #[.agg (stpC ws s).toArray] w fun e w' => e = .returned (.int .i64 (kd8 s.kind)) ∧ Ext No w w' := by
  have hk := kd8_in s.kind
  refine Calls.of_G1 Try.func28 rfl Try.ntmps28 rfl ?_
  refine J.at (C := Cls w No []) ?_ (Cls.start _ _)
  unfold stpC msgC
  repeat (first | (apply JL.y; (first | (apply Y_assign; rfl) | (apply Y_fieldAddr; rfl; rfl) | (apply Y_load1 0; rfl; rfl; rfl; exact inferInstance)); rfl) | refine J.seq ?_ | refine J.region ?_ | refine JL.nil ?_ | (apply JL.box; rfl; rfl; rfl; intro _))
  apply JL.y (Y_conv rfl) rfl
  apply JL.y (Y_rem rfl rfl (by decide)) rfl
  rw [show (IntKind.u64.wrap s.kind).tmod 8 = kd8 s.kind from rfl]
  repeat (first | (apply JL.y; (first | (apply Y_assign; rfl) | (apply Y_convI; rfl; omega)); rfl) | refine JL.nil ?_)
  exact J.ret1 Try.func28 Try.results28 (RV.tm rfl) fun w' hw => ⟨rfl, hw.ext⟩
/-- empennageref10.Late. -/
theorem rLate_spec (ws : Value) (m : Msg) (now : Int) (w : World) : Calls Try.prog 90 #[.agg (msgC ws m).toArray, .int .i64 now] w fun e w' => e = .returned (.bool (late now m)) ∧ Ext No w w' := by
  refine Calls.of_G2 Try.func90 rfl Try.ntmps90 rfl ?_
  refine J.at (C := Cls w No []) ?_ (Cls.start _ _)
  unfold msgC
  repeat (first | (apply JL.y; (apply Y_assign; rfl); rfl) | refine J.seq ?_ | refine J.region ?_ | refine JL.nil ?_ | (apply JL.box; rfl; rfl; rfl; intro _))
  refine J.draw (S := Cls _ _ _) [] #[false, false, false, false, false, false, false] rfl rfl (fun w hw => hw.drew) (fun w hS => ?_)
  (apply DR.pure 0 #[true, false, false, false, false, false, false]; rfl; kernel_rfl; (apply Y_move; rfl); rfl)
  (apply DR.pure 2 #[true, false, true, false, false, false, false]; rfl; kernel_rfl; (apply Y_fieldAddr; rfl; rfl); rfl)
  (apply DR.take 3 #[true, false, true, true, false, false, false]; rfl; kernel_rfl; (first | (apply Y_load1 0; rfl; rfl; rfl; exact inferInstance) | (apply Y_load1 1; rfl; rfl; rfl; exact inferInstance) | (apply Y_load1 2; rfl; rfl; rfl; exact inferInstance) | (apply Y_load1 3; rfl; rfl; rfl; exact inferInstance) | (apply Y_loadW 0; rfl; rfl; exact inferInstance; rfl) | (apply Y_loadW 1; rfl; rfl; exact inferInstance; rfl) | (apply Y_loadW 2; rfl; rfl; exact inferInstance; rfl) | (apply Y_loadW 3; rfl; rfl; exact inferInstance; rfl)); rfl; exact hS)
  refine DR.callq 1 #[true, true, true, true, false, false, false] rfl (by kernel_rfl) rfl rfl rfl (rcut_spec _ _) (fun w' hw' => hS.ext0 hw') (fun w hE2 hS => ?_)
  refine DR.callq 4 #[true, true, true, true, true, false, false] rfl (by kernel_rfl) rfl rfl rfl (rcut_spec _ _) (fun w' hw' => hS.ext0 hw') (fun w hE2 hS => ?_)
  (apply DR.pure 5 #[true, true, true, true, true, true, false]; rfl; kernel_rfl; (apply Y_geq; rfl; rfl); rfl)
  (apply DR.pure 6 #[true, true, true, true, true, true, true]; rfl; kernel_rfl; (apply Y_assign; rfl); rfl)
  refine DR.done (by kernel_rfl) ?_
  refine J.at (C := Cls _ _ _) ?_ hS
  exact J.ret1 Try.func90 Try.results90 (RV.tm rfl) fun w' hw' => ⟨rfl, hw'.ext⟩
end Go.Proofs.Ytmkpbbdocndfbaa
/- The document's lanes: Of, Room, Take, Sweep. -/
namespace Go.Proofs.Ytmkpbbdocndfbaa
open Go.RowKit Go.Proofs
attribute [local irreducible] Yl JL J G GL GA GQ DR

theorem map_snoc {zs : Zs} {i : Nat} {z : List Value × Msg} (h : zs[i]? = some z) : (zs.map (·.2))[i]? = some z.2 := by simp [h]
set_option maxHeartbeats 1000000 in
/-- empennageref10.Of. -/
theorem rOf_spec {w : World} {ok : Nat → Prop} {v : Value} {zs : Zs} {ln pl : Int} (h : Rd 5 MsgC w ok v zs) (hn : zs.length ≤ 1000000) (q : Int) :
    Calls Try.prog 45 #[.agg (rlC ln pl v).toArray, .int .i64 q] w fun e w' => ∃ r, e = .returned r ∧ Ext No w w' ∧ ∃ zs', Lk ok w w' r zs' ∧ zs'.map (·.2) = (zs.map (·.2)).filter (fun m => m.lane == q) := by
  obtain ⟨A, c, rfl, hc, hm⟩ := h.slice
  refine Calls.of_G2 Try.func45 rfl Try.ntmps45 rfl ?_
  refine J.at (C := Cls w No []) ?_ (Cls.start _ _)
  unfold rlC
  repeat (first | (apply JL.y; (apply Y_assign; rfl); rfl) | refine J.seq ?_ | refine J.region ?_ | refine JL.nil ?_ | (apply JL.box; rfl; rfl; rfl; intro _) | refine J.block ?_)
  rename_i b2
  refine J.intro fun wl hwl => ?_
  have hb2 := hwl.has _ (.head _)
  have b2l : w.heap.size ≤ b2 := hwl.fresh fun _ h => h.elim
  refine G.loop (Inv := fun mm e wl => ∃ (i : Nat) (vo : Value) (zo : Zs), i ≤ zs.length ∧ mm = zs.length - i ∧ Ext No w wl ∧ BlkIn wl ⟨b2, [.int .i64 ln, .int .i64 pl, .slice A zs.length c], 28⟩ ∧ Lk ok w wl vo zo ∧ zo.map (·.2) = ((zs.map (·.2)).take i).filter (fun m => m.lane == q) ∧ vo.ownBlock ≠ some b2 ∧ e = [(1, .int .i64 q), (2, .pointer (some ⟨b2, 0, none⟩)), (5, vo), (6, .int .i64 i)])
    _ _ ⟨0, _, [], Nat.zero_le _, rfl, hwl.ext, hb2, Lk.nil _ _ _, by simp, by simp [Value.ownBlock], rfl⟩ ⟨rfl, rfl, rfl, rfl, trivial⟩ ?_
  rintro mm e w1 ⟨i, vo, zo, hi, rfl, hE, hB, hL, hz, hvb, rfl⟩ ih
  have hzl : zo.length ≤ 1000000 := by have := congrArg List.length hz; simp at this; have := List.length_filter_le (fun m : Msg => m.lane == q) ((zs.map (·.2)).take i); simp at this; omega
  have hst : ∀ {H' : List Blk} {w' : World}, Cls w1 (fun k => k = b2) H' w' → (⟨b2, [.int .i64 ln, .int .i64 pl, .slice A zs.length c], 28⟩ : Blk) ∈ H' → Ext No w1 w' := fun h h1 => h.still fun k hk => ⟨_, h1, hk.symm, hB⟩
  refine J.at (C := Cls w1 (fun k => k = b2) [_]) ?_ (Cls.start1 hB)
  repeat (first | (apply JL.y; (first | (apply Y_move; rfl) | (apply Y_fieldAddr; rfl; rfl) | (apply Y_load1 0; rfl; rfl; rfl; exact inferInstance) | (apply Y_len; rfl) | (apply Y_lss; rfl; rfl)); rfl) | refine J.seq ?_ | refine J.region ?_ | refine JL.nil ?_)
  refine J.cond_d rfl (fun hlt => ?_) (fun hlt => ?_)
  · have hil : i < zs.length := by omega
    obtain ⟨z, hx⟩ : ∃ z, zs[i]? = some z := ⟨_, List.getElem?_eq_getElem hil⟩
    obtain ⟨ad, _, e1⟩ := h.base (by omega) (by omega)
    cases e1
    have l1 := (h.lds (P := Try.prog) (t := 33) hx).ext0 hE
    have hel := h.el z (List.mem_of_getElem? hx)
    obtain ⟨ws, hws, hwr, hl8, ho⟩ := MsgC.open_ hel
    have l2 := (h.ldsF (P := Try.prog) (t := 3) hx (j := 1) (v := .int .i64 z.2.lane) (by rw [hws]; rfl)).ext0 hE
    unfold maxLen at hm
    repeat (first | (apply JL.y; (first | (apply Y_move; rfl) | (apply Y_fieldAddr; rfl; rfl) | (apply Y_load1 0; rfl; rfl; rfl; exact inferInstance)); rfl) | refine J.seq ?_ | refine J.region ?_ | refine J.skip ?_ | refine J.block ?_)
    apply JL.y (Y_indexAddr rfl rfl (by omega)) rfl
    apply JL.y (Y_fieldAddrG rfl) rfl
    apply JL.y (Y_loadP rfl fun w' hw' => l2.at_ (hst hw' (by simp)) fun _ _ _ h => h) rfl
    repeat (first | (apply JL.y; (first | (apply Y_move; rfl) | (apply Y_eql; rfl; rfl)); rfl) | refine JL.nil ?_)
    refine J.cond_d rfl (fun hq => ?_) (fun hq => ?_)
    · repeat (first | (apply JL.y; (first | (apply Y_move; rfl) | (apply Y_fieldAddr; rfl; rfl) | (apply Y_load1 0; rfl; rfl; rfl; exact inferInstance)); rfl) | refine J.region ?_)
      apply JL.y (Y_indexAddr rfl rfl (by omega)) rfl
      apply JL.y (Y_loadP rfl fun w' hw' => l1.at_ (hst hw' (by simp)) fun _ _ _ h => h) rfl
      rw [hws]
      unfold msgC
      repeat (first | (apply JL.bslice1; rfl; rfl; rfl; rfl; rfl; rfl; intro _))
      refine JL.intro fun w2 hw2 => ?_
      have hE12 := hst hw2 (by simp)
      have hL2 := hL.ext0 hE12
      have hx2 : Foot (fun w => MsgC w (msgC ws z.2) z.2) w2 (fun k => ok k ∧ k < w.heap.size) := ((MsgC.mk hwr hl8).old (hE.trans hE12) fun _ _ _ h => h)
      have hb2' := hw2.has _ (.tail _ (.head _))
      refine GL.append1 rfl rfl hL2.own.row (hw2.has _ (.head _)) rfl rfl (msgC_one ho) (by simp; omega) rfl rfl fun v' w3 hrow hapd => ?_
      have hL3 := hL2.app hrow hapd hx2 (hE.trans hE12).size
      have hb3 := hb2'.keep hapd.ext hvb
      have hne : v'.ownBlock ≠ some b2 := fun hv => by
        rcases hapd.at_ with h1 | h1 <;> rw [h1] at hv
        · exact hvb hv
        · injection hv with hv; have := hb2'.lt; simp only at this; omega
      have hE3 : Ext No w w3 := (hE.trans hE12).then hapd.ext fun k hk hv => by have := hL2.new k hv; omega
      refine GL.of_JL (C := Cls w3 (fun k => k = b2) [_]) (Cls.start1 hb3) ?_
      repeat (first | (apply JL.y; (first | (apply Y_move; rfl) | (apply Y_assign; rfl) | (apply Y_add; rfl; rfl; omega)); rfl) | refine J.region ?_ | refine JL.nil ?_ | refine J.inBlock ?_)
      refine J.intro fun w4 hw4 => ?_
      have hE34 : Ext No w3 w4 := hw4.still fun k hk => ⟨_, .head _, hk.symm, hb3⟩
      refine ih (zs.length - (i + 1)) (by omega) _ _ w4 ?_ ⟨i + 1, v', _, hil, rfl, hE3.trans hE34, hw4.has _ (.head _), hL3.ext0 hE34, ?_, hne, rfl⟩
      · exact ⟨rfl, rfl, rfl, rfl, trivial⟩
      · rw [take_snoc (map_snoc hx), List.filter_append, List.map_append, hz]; simp [hq]
    · repeat (first | (apply JL.y; (first | (apply Y_move; rfl) | (apply Y_assign; rfl) | (apply Y_add; rfl; rfl; omega)); rfl) | refine J.region ?_ | refine JL.nil ?_ | refine J.skip ?_ | refine J.inBlock ?_)
      refine J.intro fun w4 hw4 => ?_
      have hE34 := hst hw4 (by simp)
      refine ih (zs.length - (i + 1)) (by omega) _ _ w4 ?_ ⟨i + 1, vo, zo, hil, rfl, hE.trans hE34, hw4.has _ (.head _), hL.ext0 hE34, ?_, hvb, rfl⟩
      · exact ⟨rfl, rfl, rfl, rfl, trivial⟩
      · rw [take_snoc (map_snoc hx), List.filter_append, hz]; simp [hq]
  · repeat (first | (apply JL.y; (first | (apply Y_move; rfl) | (apply Y_assign; rfl)); rfl) | refine J.seq ?_ | refine J.region ?_ | refine JL.nil ?_ | (apply J.exit; rfl))
    refine J.ret1 Try.func45 Try.results45 (RV.tm rfl) fun w' hw' => ?_
    have hE34 := hst hw' (by simp)
    exact ⟨_, rfl, hE.trans hE34, zo, hL.ext0 hE34, by rw [hz, List.take_of_length_le (by simp; omega)]⟩
/-- empennageref10.Room. -/
theorem rRoom_spec {w : World} {ok : Nat → Prop} {v : Value} {zs : Zs} {ln pl : Int} (h : Rd 5 MsgC w ok v zs) (hn : zs.length ≤ 1000000) (hp : 0 ≤ pl ∧ pl ≤ 1000000) (q : Int) :
    Calls Try.prog 43 #[.agg (rlC ln pl v).toArray, .int .i64 q] w fun e w' => e = .returned (.int .i64 (room ln pl (zs.map (·.2)) q)) ∧ Ext No w w' := by
  have hone : v.oneCell' = true := by obtain ⟨A, c, rfl, _⟩ := h.slice; rfl
  have hfl := List.length_filter_le (fun m : Msg => m.lane == q) (zs.map (·.2))
  simp only [List.length_map] at hfl
  refine Calls.of_G2 Try.func43 rfl Try.ntmps43 rfl ?_
  refine J.at (C := Cls w No []) ?_ (Cls.start _ _)
  unfold rlC
  repeat (first | (apply JL.y; (first | (apply Y_move; rfl) | (apply Y_assign; rfl) | (apply Y_lss; rfl; rfl)); rfl) | refine J.seq ?_ | refine J.region ?_ | refine JL.nil ?_ | (apply JL.box; rfl; rfl; rfl; intro _))
  by_cases h0 : q < 0
  · rw [decide_eq_true h0]
    repeat (first | (apply JL.y; (apply Y_pick_t; rfl; rfl); rfl) | refine JL.nil ?_ | (apply JL.guard_no; rfl; rfl; rfl; rfl; rfl))
    apply J.cond_t rfl
    repeat (first | (apply JL.y; (apply Y_assign; rfl); rfl) | refine J.seq ?_ | refine J.region ?_ | refine JL.nil ?_)
    exact J.ret1 Try.func43 Try.results43 (RV.tm rfl) fun w' hw' => ⟨ret_eq (by rw [room, if_neg (by omega)]), hw'.ext⟩
  rw [decide_eq_false h0]
  repeat (first | (apply JL.y; (first | (apply Y_move; rfl) | (apply Y_fieldAddr; rfl; rfl) | (apply Y_load1 0; rfl; rfl; rfl; exact inferInstance) | (apply Y_geq; rfl; rfl) | (apply Y_pick_f; rfl; rfl)); rfl) | refine JL.nil ?_ | (apply JL.guard_yes; rfl; rfl; rfl))
  refine J.cond_d rfl (fun h1 => ?_) (fun h1 => ?_)
  · repeat (first | (apply JL.y; (apply Y_assign; rfl); rfl) | refine J.seq ?_ | refine J.region ?_ | refine JL.nil ?_)
    exact J.ret1 Try.func43 Try.results43 (RV.tm rfl) fun w' hw' => ⟨ret_eq (by rw [room, if_neg (by omega)]), hw'.ext⟩
  repeat (first | refine J.seq ?_ | refine J.skip ?_)
  refine J.draw (S := Cls _ _ _) [] #[false, false, false, false, false, false, false, false] rfl rfl (fun w hw => hw.drew) (fun w hS => ?_)
  (apply DR.pure 0 #[true, false, false, false, false, false, false, false]; rfl; kernel_rfl; (apply Y_fieldAddr; rfl; rfl); rfl)
  (apply DR.take 1 #[true, true, false, false, false, false, false, false]; rfl; kernel_rfl; (first | (apply Y_load1 0; rfl; rfl; rfl; exact inferInstance) | (apply Y_load1 1; rfl; rfl; rfl; exact inferInstance) | (apply Y_load1 2; rfl; rfl; rfl; exact inferInstance) | (apply Y_load1 3; rfl; rfl; rfl; exact inferInstance) | (apply Y_loadW 0; rfl; rfl; exact inferInstance; rfl) | (apply Y_loadW 1; rfl; rfl; exact inferInstance; rfl) | (apply Y_loadW 2; rfl; rfl; exact inferInstance; rfl) | (apply Y_loadW 3; rfl; rfl; exact inferInstance; rfl)); rfl; exact hS)
  (apply DR.take 2 #[true, true, true, false, false, false, false, false]; rfl; kernel_rfl; (first | (apply Y_load1 0; rfl; rfl; rfl; exact inferInstance) | (apply Y_load1 1; rfl; rfl; rfl; exact inferInstance) | (apply Y_load1 2; rfl; rfl; rfl; exact inferInstance) | (apply Y_load1 3; rfl; rfl; rfl; exact inferInstance) | (apply Y_loadW 0; rfl; rfl; exact inferInstance; rfl) | (apply Y_loadW 1; rfl; rfl; exact inferInstance; rfl) | (apply Y_loadW 2; rfl; rfl; exact inferInstance; rfl) | (apply Y_loadW 3; rfl; rfl; exact inferInstance; rfl)); rfl; exact hS)
  (apply DR.pure 3 #[true, true, true, true, false, false, false, false]; rfl; kernel_rfl; (apply Y_move; rfl); rfl)
  refine DR.call 4 #[true, true, true, true, true, false, false, false] (fun v w' => Ext No _ w' ∧ ∃ A c, v = .slice A ((zs.map (·.2)).filter (fun m => m.lane == q)).length c) rfl (by kernel_rfl) rfl rfl rfl ((rOf_spec (ln := ln) (pl := pl) (h.ext0 hS.ext) hn q).mono fun en w' he => ?_) (fun v w' hv => hS.ext0 hv.1) (fun v w' ⟨hE, A, c, hv⟩ hS => ?_)
  · obtain ⟨r, h1, hE, zs', hR, hz⟩ := he
    obtain ⟨A, c, hr, _⟩ := hR.own.slice
    exact ⟨r, h1, hE, A, c, by rw [hr, ← hz]; simp⟩
  subst hv
  (apply DR.pure 5 #[true, true, true, true, true, true, false, false]; rfl; kernel_rfl; (apply Y_len; rfl); rfl)
  (apply DR.pure 6 #[true, true, true, true, true, true, true, false]; rfl; kernel_rfl; (apply Y_sub; rfl; rfl; omega); rfl)
  (apply DR.pure 7 #[true, true, true, true, true, true, true, true]; rfl; kernel_rfl; (apply Y_assign; rfl); rfl)
  refine DR.done (by kernel_rfl) ?_
  refine J.at (C := Cls _ _ _) ?_ hS
  skip
  exact J.ret1 Try.func43 Try.results43 (RV.tm rfl) fun w' hw' => ⟨ret_eq (by rw [room, if_pos (by omega)]; rfl), hw'.ext⟩
end Go.Proofs.Ytmkpbbdocndfbaa
/- The document's lanes: Take, Sweep. -/
namespace Go.Proofs.Ytmkpbbdocndfbaa
open Go.RowKit Go.Proofs
attribute [local irreducible] Yl JL J G GL GA GQ DR

theorem apart_sub : ∀ {H H' : List Blk}, H'.Sublist H → Apart H → Apart H'
  | _, _, .slnil, _ => trivial
  | _, _, .cons _ hs, h => apart_sub hs h.2
  | _, _, .cons_cons _ hs, h => ⟨fun y hy => h.1 y (hs.subset hy), apart_sub hs h.2⟩
/-- Of some blocks alone. -/
theorem Cls.sub {w0 w : World} {D : Nat → Prop} {H H' : List Blk} (h : Cls w0 D H w) (hs : H'.Sublist H) : Cls w0 D H' w := ⟨h.ext, fun x hx => h.has x (hs.subset hx), apart_sub hs h.apart, fun x hx => h.mine x (hs.subset hx)⟩
section
open Go.Proofs.YtmkpbbdocndfbaaW.PrintLast
variable {P : Program} {f n : Nat} {R : Ending → World → Prop} {k : List Item} {e : Env} {w : World} {C C' S : World → Prop} {ops : Array Oper} {ty t : TypeId} {pos : String} {aft : Array Edge} {fuel : Nat} {x y : Operand} {ds : List Nat} {l : Array Bool}
/-- A region that draws its order: what is known at its begin is more than what holds behind each operation. -/
theorem J.drawC [hm : Wide P] {id m : Nat} (S : World → Prop) (ds : List Nat) (l0 : Array Bool) (hn : ops.size = m) (hl : Array.replicate m false = l0) (hC : ∀ w, C w → S w.drew)
    (h : ∀ w, C w → S w.drew → DR P f n R S ds ops m l0 k e w.drew) : J P f n R C (.code (.region id ops true) :: k) e := by
  unfold J G
  exact fun w hw a ha => .of_wp (start_ l0 hm.h hn hl (hC w hw) fun hS => by have := h _ hw hS; unfold DR at this; exact this a ha)
/-- A store behind which S holds. -/
theorem DR.storeS (i : Nat) (l' : Array Bool) (hi : ops[i]? = some ⟨none, .store t x y, ty, pos, aft, none⟩) (hc : readyB .any ops l l' i = true) (hds : (ds.contains i) = false) (hw : C w) (hst : Stores P n e C C' ⟨none, .store t x y, ty, pos, aft, none⟩)
    (hS : ∀ w', C' w' → S w') (hk : ∀ w', C' w' → DR P f n R S ds ops fuel l' k e w') : DR P f n R S ds ops (fuel + 1) l k e w := by
  unfold DR
  intro a ha
  obtain ⟨w', hr, hC⟩ := hst a w ha hw
  refine one_ l' hi rfl hc (by simpa using hds) fun K hK => want_if rfl ?_
  unfold Oper.wp
  rw [hr]
  exact hK.out _ _ (hS w' hC) fun _ => by have := hk w' hC; unfold DR at this; exact this _ ha
end
theorem rl_one {ln pl : Int} {v : Value} (h : v.oneCell' = true) : ∀ u ∈ rlC ln pl v, u.oneCell' = true := by
  intro u hu
  simp only [rlC, List.mem_cons, List.not_mem_nil, or_false] at hu
  rcases hu with rfl | rfl | rfl <;> first | exact h | rfl
set_option maxHeartbeats 1000000 in
/-- empennageref10.Take. -/
theorem rTake_spec {w : World} {ok : Nat → Prop} {v : Value} {zs : Zs} {ln pl : Int} (h : Rd 5 MsgC w ok v zs) :
    Calls Try.prog 32 #[.agg (rlC ln pl v).toArray] w fun e w' => ∃ r, e = .returned r ∧ Ext No w w' ∧ ∃ v' vm, r = .tuple #[.agg (rlC ln pl v').toArray, vm, .bool (takeR (zs.map (·.2))).2.1] ∧ Rd 5 MsgC w' ok v' (zs.drop 1) ∧ Foot (fun w => RMsg w vm (takeR (zs.map (·.2))).1) w' ok := by
  obtain ⟨A, c, rfl, hc, hm⟩ := h.slice
  refine Calls.of_G1 Try.func32 rfl Try.ntmps32 rfl ?_
  refine J.at (C := Cls w No []) ?_ (Cls.start _ _)
  unfold rlC
  repeat (first | (apply JL.y; (first | (apply Y_assign; rfl) | (apply Y_fieldAddr; rfl; rfl) | (apply Y_load1 2; rfl; rfl; rfl; exact inferInstance) | (apply Y_len; rfl) | (apply Y_eql; rfl; rfl)); rfl) | refine J.seq ?_ | refine J.region ?_ | refine JL.nil ?_ | (apply JL.box; rfl; rfl; rfl; intro _) | (apply JL.alloc; rfl; rfl; intro _))
  refine J.cond_d rfl (fun h0 => ?_) (fun h0 => ?_)
  · have hz : zs = [] := List.eq_nil_of_length_eq_zero (by omega)
    subst hz
    repeat (first | (apply JL.y; (first | (apply Y_assign; rfl) | (apply Y_loadW 2; rfl; rfl; exact inferInstance; rfl) | (apply Y_build; rfl; exact inferInstance)); rfl) | refine J.seq ?_ | refine J.region ?_ | refine JL.nil ?_ | (apply JL.store; (first | (apply St_W 0; rfl; rfl; rfl; exact inferInstance; rfl; rfl; (first | (focus (simp [Value.oneCell']; done)) | (simp [Value.oneCell']; assumption) | (simp [Value.oneCell']; exact ⟨by assumption, by assumption⟩)); (first | (focus (simp only [List.set_cons_zero]; done)) | (simp only [List.set_cons_zero]; rfl))) | (apply St_W 1; rfl; rfl; rfl; exact inferInstance; rfl; rfl; (first | (focus (simp [Value.oneCell']; done)) | (simp [Value.oneCell']; assumption) | (simp [Value.oneCell']; exact ⟨by assumption, by assumption⟩)); (first | (focus (simp only [List.set_cons_zero, List.set_cons_succ]; done)) | (simp only [List.set_cons_zero, List.set_cons_succ]; rfl))))))
    exact J.ret3 Try.func32 Try.results32 (RV.W 1 rfl rfl rfl) (RV.W 0 rfl rfl rfl) (RV.tm rfl) fun w' hw' => ⟨_, rfl, hw'.ext, _, _, rfl, h.ext0 hw'.ext, zero_msg w' _⟩
  obtain ⟨ad, _, e1⟩ := h.base (by omega) (by omega)
  cases e1
  obtain ⟨z, hx⟩ : ∃ z, zs[0]? = some z := ⟨_, List.getElem?_eq_getElem (by omega)⟩
  have l1 := (h.lds (P := Try.prog) (t := 33) hx)
  have hel := h.el z (List.mem_of_getElem? hx)
  obtain ⟨ws, hws, hwr, hl8, ho⟩ := MsgC.open_ hel
  have hd := h.drop (i := 1) (by omega)
  have hT : takeR (zs.map (·.2)) = (z.2, true, (zs.map (·.2)).drop 1) := by
    cases zs with
    | nil => simp at hx
    | cons y r => simp at hx; subst hx; rfl
  repeat (first | (apply JL.y; (first | (apply Y_fieldAddr; rfl; rfl) | (apply Y_load1 2; rfl; rfl; rfl; exact inferInstance)); rfl) | refine J.seq ?_ | refine J.region ?_ | refine J.skip ?_)
  apply JL.y (Y_indexAddr rfl rfl (by omega)) rfl
  apply JL.y (Y_loadP rfl fun w' hw' => l1.at_ hw'.ext fun _ _ _ h => h) rfl
  rw [hws]
  unfold msgC
  repeat (first | (apply JL.y; (first | (apply Y_fieldAddr; rfl; rfl) | (apply Y_load1 3; rfl; rfl; rfl; exact inferInstance)); rfl) | refine J.seq ?_ | refine J.region ?_ | refine JL.nil ?_ | (apply JL.alloc; rfl; rfl; intro _) | (apply JL.store; (apply St_W 0; rfl; rfl; rfl; exact inferInstance; rfl; rfl; (first | (focus (simp [Value.oneCell']; done)) | (simp [Value.oneCell']; assumption) | (simp [Value.oneCell']; exact ⟨by assumption, by assumption⟩)); (first | (focus (simp only [List.set_cons_zero]; done)) | (simp only [List.set_cons_zero]; rfl)))))
  apply JL.y (Y_slice_l rfl rfl (by omega)) rfl
  rw [show (1 : Int).toNat = 1 from rfl]
  repeat (first | (apply JL.y; (apply Y_fieldAddr; rfl; rfl); rfl) | refine J.seq ?_ | refine JL.nil ?_ | (apply JL.store; (apply St_1 3; rfl; rfl; exact inferInstance; (first | rfl | assumption); rfl; rfl; (first | (focus (simp only [List.set_cons_zero, List.set_cons_succ]; done)) | (simp only [List.set_cons_zero, List.set_cons_succ]; rfl)))))
  rename_i b1 b2 b3 b5
  refine J.drawC (S := Cls _ _ [_, _, _]) [3] #[false, false, false, false, false] rfl rfl (fun w hw => hw.drew.sub (.cons_cons _ (.cons_cons _ (.cons _ (.cons_cons _ .slnil))))) (fun w hC0 hS => ?_)
  have hC := hC0.drew
  generalize w.drew = wd at hS hC ⊢
  (apply DR.take 0 #[true, false, false, false, false]; rfl; kernel_rfl; (first | (apply Y_load1 0; rfl; rfl; rfl; exact inferInstance) | (apply Y_load1 1; rfl; rfl; rfl; exact inferInstance) | (apply Y_load1 2; rfl; rfl; rfl; exact inferInstance) | (apply Y_load1 3; rfl; rfl; rfl; exact inferInstance) | (apply Y_loadW 0; rfl; rfl; exact inferInstance; rfl) | (apply Y_loadW 1; rfl; rfl; exact inferInstance; rfl) | (apply Y_loadW 2; rfl; rfl; exact inferInstance; rfl) | (apply Y_loadW 3; rfl; rfl; exact inferInstance; rfl)); rfl; exact hS)
  (apply DR.take 1 #[true, true, false, false, false]; rfl; kernel_rfl; (first | (apply Y_load1 0; rfl; rfl; rfl; exact inferInstance) | (apply Y_load1 1; rfl; rfl; rfl; exact inferInstance) | (apply Y_load1 2; rfl; rfl; rfl; exact inferInstance) | (apply Y_load1 3; rfl; rfl; rfl; exact inferInstance) | (apply Y_loadW 0; rfl; rfl; exact inferInstance; rfl) | (apply Y_loadW 1; rfl; rfl; exact inferInstance; rfl) | (apply Y_loadW 2; rfl; rfl; exact inferInstance; rfl) | (apply Y_loadW 3; rfl; rfl; exact inferInstance; rfl)); rfl; exact hS)
  (apply DR.storeS 2 #[true, true, true, false, false]; rfl; kernel_rfl; rfl; exact hC; (apply St_W 2; rfl; rfl; rfl; exact inferInstance; rfl; rfl; simp [Value.oneCell']; rfl); (exact fun w' hw' => hw'.sub (.cons_cons _ (.cons_cons _ (.cons _ (.cons_cons _ .slnil))))); intro w1 hC1)
  (apply DR.store 3 #[true, true, true, true, false]; rfl; kernel_rfl; rfl; exact hC1; (apply St_W 1; rfl; rfl; rfl; exact inferInstance; rfl; rfl; (simp [Value.oneCell']; exact ho); rfl); intro w2 hC2)
  (apply DR.pure 4 #[true, true, true, true, true]; rfl; kernel_rfl; (apply Y_assign; rfl); rfl)
  refine DR.done (by kernel_rfl) ?_
  refine J.at (C := Cls _ _ _) ?_ hC2
  skip
  refine J.ret3 Try.func32 Try.results32 (RV.W 2 rfl rfl rfl) (RV.W 1 rfl rfl rfl) (RV.tm rfl) fun w' hw' => ⟨_, rfl, hw'.ext, _, .agg (msgC ws z.2).toArray, by rw [hT]; rfl, hd.ext0 hw'.ext, ?_⟩
  rw [hT]; exact (RMsg.mk hwr hl8).ext0 hw'.ext
end Go.Proofs.Ytmkpbbdocndfbaa
/- The document's lanes: Sweep. -/
namespace Go.Proofs.Ytmkpbbdocndfbaa
open Go.RowKit Go.Proofs
attribute [local irreducible] Yl JL J G GL GA GQ DR

theorem apd_ne {w w' : World} {v v' : Value} {b : Nat} (h : Apd w w' v v') (hb : b < w.heap.size) (hv : v.ownBlock ≠ some b) : v'.ownBlock ≠ some b := fun h' => by
  rcases h.at_ with h1 | h1 <;> rw [h1] at h'
  · exact hv h'
  · injection h' with h'; omega
theorem filt_le {zo zs : Zs} {i : Nat} {p : Msg → Bool} (h : zo.map (·.2) = ((zs.map (·.2)).take i).filter p) (hn : zs.length ≤ 1000000) : zo.length ≤ 1000000 := by
  have h1 := congrArg List.length h
  have := List.length_filter_le p ((zs.map (·.2)).take i)
  simp at h1 this; omega
set_option maxHeartbeats 1000000 in
/-- empennageref10.Sweep. -/
theorem rSweep_spec {w : World} {ok : Nat → Prop} {v : Value} {zs : Zs} {ln pl : Int} (h : Rd 5 MsgC w ok v zs) (hn : zs.length ≤ 1000000) (now : Int) :
    Calls Try.prog 36 #[.agg (rlC ln pl v).toArray, .int .i64 now] w fun e w' => ∃ r, e = .returned r ∧ Ext No w w' ∧ ∃ v' vo zr zo, r = .tuple #[.agg (rlC ln pl v').toArray, vo] ∧ Lk ok w w' v' zr ∧ Lk ok w w' vo zo ∧ zr.map (·.2) = (zs.map (·.2)).filter (fun m => !late now m) ∧ zo.map (·.2) = (zs.map (·.2)).filter (late now) := by
  obtain ⟨A, c, rfl, hc, hm⟩ := h.slice
  refine Calls.of_G2 Try.func36 rfl Try.ntmps36 rfl ?_
  refine J.at (C := Cls w No []) ?_ (Cls.start _ _)
  unfold rlC
  repeat (first | (apply JL.y; (apply Y_assign; rfl); rfl) | refine J.seq ?_ | refine J.region ?_ | refine JL.nil ?_ | (apply JL.box; rfl; rfl; rfl; intro _) | (apply JL.alloc; rfl; rfl; intro _) | refine J.block ?_)
  rename_i b2 b4
  refine J.intro fun wl hwl => ?_
  have hb4 := hwl.has _ (.head _)
  have hb2 := hwl.has _ (.tail _ (.head _))
  have b4l : w.heap.size ≤ b4 := hwl.fresh fun _ h => h.elim
  have b2l : w.heap.size ≤ b2 := (hwl.mine _ (.tail _ (.head _))).resolve_left id
  have b24 : b2 ≠ b4 := hwl.apart.1 _ (.head _)
  refine G.loop (Inv := fun mm e wl => ∃ (i : Nat) (vr vo : Value) (zr zo : Zs), i ≤ zs.length ∧ mm = zs.length - i ∧ Ext No w wl ∧ BlkIn wl ⟨b4, [.int .i64 0, .int .i64 0, .slice none 0 0], 28⟩ ∧ BlkIn wl ⟨b2, [.int .i64 ln, .int .i64 pl, .slice A zs.length c], 28⟩ ∧ Lk ok w wl vr zr ∧ Lk ok w wl vo zo ∧
      zr.map (·.2) = ((zs.map (·.2)).take i).filter (fun m => !late now m) ∧ zo.map (·.2) = ((zs.map (·.2)).take i).filter (late now) ∧ vr.ownBlock ≠ some b2 ∧ vr.ownBlock ≠ some b4 ∧ vo.ownBlock ≠ some b2 ∧ vo.ownBlock ≠ some b4 ∧ (∀ k, vr.ownBlock = some k → vo.ownBlock ≠ some k) ∧ e = [(1, .int .i64 now), (2, .pointer (some ⟨b2, 0, none⟩)), (4, .pointer (some ⟨b4, 0, none⟩)), (6, vr), (7, vo), (8, .int .i64 i)])
    _ _ ⟨0, _, _, [], [], Nat.zero_le _, rfl, hwl.ext, hb4, hb2, Lk.nil _ _ _, Lk.nil _ _ _, by simp, by simp, by simp [Value.ownBlock], by simp [Value.ownBlock], by simp [Value.ownBlock], by simp [Value.ownBlock], fun k hk => by simp [Value.ownBlock] at hk, rfl⟩ ⟨rfl, rfl, rfl, rfl, rfl, rfl, trivial⟩ ?_
  rintro mm e w1 ⟨i, vr, vo, zr, zo, hi, rfl, hE, hB4, hB2, hLr, hLo, hzr, hzo, hr2, hr4, ho2, ho4, hro, rfl⟩ ih
  have hst : ∀ {H' : List Blk} {w' : World}, Cls w1 (fun k => k = b4 ∨ k = b2) H' w' → (⟨b4, [.int .i64 0, .int .i64 0, .slice none 0 0], 28⟩ : Blk) ∈ H' → (⟨b2, [.int .i64 ln, .int .i64 pl, .slice A zs.length c], 28⟩ : Blk) ∈ H' → Ext No w1 w' := fun h h1 h2 => h.still fun k hk => hk.elim (fun hk => ⟨_, h1, hk.symm, hB4⟩) fun hk => ⟨_, h2, hk.symm, hB2⟩
  have hlr := filt_le hzr hn
  have hlo := filt_le hzo hn
  have hvr1 := hLr.own.row.one
  refine J.at (C := Cls w1 (fun k => k = b4 ∨ k = b2) [_, _]) ?_ (Cls.start2 hB4 hB2 b24)
  repeat (first | (apply JL.y; (first | (apply Y_move; rfl) | (apply Y_fieldAddr; rfl; rfl) | (apply Y_load1 1; rfl; rfl; rfl; exact inferInstance) | (apply Y_len; rfl) | (apply Y_lss; rfl; rfl)); rfl) | refine J.seq ?_ | refine J.region ?_ | refine JL.nil ?_)
  refine J.cond_d rfl (fun hlt => ?_) (fun hlt => ?_)
  · have hil : i < zs.length := by omega
    obtain ⟨z, hx⟩ : ∃ z, zs[i]? = some z := ⟨_, List.getElem?_eq_getElem hil⟩
    obtain ⟨ad, _, e1⟩ := h.base (by omega) (by omega)
    cases e1
    have l1 := (h.lds (P := Try.prog) (t := 33) hx).ext0 hE
    have hel := h.el z (List.mem_of_getElem? hx)
    obtain ⟨ws, hws, hwr, hl8, ho⟩ := MsgC.open_ hel
    unfold maxLen at hm
    have hsr := take_snoc (map_snoc hx)
    repeat (first | (apply JL.y; (first | (apply Y_move; rfl) | (apply Y_fieldAddr; rfl; rfl) | (apply Y_load1 1; rfl; rfl; rfl; exact inferInstance)); rfl) | refine J.seq ?_ | refine J.region ?_ | refine J.skip ?_ | refine J.block ?_)
    apply JL.y (Y_indexAddr rfl rfl (by omega)) rfl
    apply JL.y (Y_loadP rfl fun w' hw' => l1.at_ (hst hw' (by simp) (by simp)) fun _ _ _ h => h) rfl
    rw [hws]
    repeat (first | (apply JL.y; (first | (apply Y_move; rfl) | (apply Y_assign; rfl)); rfl) | refine J.seq ?_ | refine J.region ?_ | refine JL.nil ?_ | (apply JL.callq; rfl; rfl; (intro wc hwc; first | exact rLate_spec _ _ _ _)))
    cases hP : late now z.2 with
    | true =>
      refine J.cond_t rfl ?_
      repeat (first | (apply JL.y; (first | (apply Y_move; rfl) | (apply Y_fieldAddr; rfl; rfl) | (apply Y_load1 1; rfl; rfl; rfl; exact inferInstance)); rfl) | refine J.region ?_)
      apply JL.y (Y_indexAddr rfl rfl (by omega)) rfl
      apply JL.y (Y_loadP rfl fun w' hw' => l1.at_ (hst hw' (by simp) (by simp)) fun _ _ _ h => h) rfl
      rw [hws]
      repeat (first | (apply JL.bslice1; rfl; rfl; rfl; rfl; rfl; rfl; intro _))
      refine JL.intro fun w2 hw2 => ?_
      have hE12 := hst hw2 (by simp) (by simp)
      have hLo2 := hLo.ext0 hE12
      have hLr2 := hLr.ext0 hE12
      have hx2 : Foot (fun w => MsgC w (msgC ws z.2) z.2) w2 (fun k => ok k ∧ k < w.heap.size) := ((MsgC.mk hwr hl8).old (hE.trans hE12) fun _ _ _ h => h)
      have hb4' := hw2.has _ (.tail _ (.head _))
      have hb2' := hw2.has _ (.tail _ (.tail _ (.head _)))
      have u4 := hb4'.lt
      have u2 := hb2'.lt
      simp only at u4 u2
      refine GL.append1 rfl rfl hLo2.own.row (hw2.has _ (.head _)) rfl rfl (msgC_one ho) (by simp; omega) rfl rfl fun v' w3 hrow hapd => ?_
      have hLo3 := hLo2.app hrow hapd hx2 (hE.trans hE12).size
      have hLr3 := hLr2.ext hapd.ext fun k _ hv => ⟨hLo2.new k hv, fun h => hro k h hv⟩
      have hb43 := hb4'.keep hapd.ext ho4
      have hb23 := hb2'.keep hapd.ext ho2
      have hE3 : Ext No w w3 := (hE.trans hE12).then hapd.ext fun k hk hv => by have := hLo2.new k hv; omega
      refine GL.of_JL (C := Cls w3 (fun k => k = b4 ∨ k = b2) [_, _]) (Cls.start2 hb43 hb23 b24) ?_
      repeat (first | (apply JL.y; (first | (apply Y_move; rfl) | (apply Y_assign; rfl) | (apply Y_add; rfl; rfl; omega)); rfl) | refine J.region ?_ | refine JL.nil ?_ | refine J.inBlock ?_)
      refine J.intro fun w4 hw4 => ?_
      have hE34 : Ext No w3 w4 := hw4.still fun k hk => hk.elim (fun hk => ⟨_, .head _, hk.symm, hb43⟩) fun hk => ⟨_, .tail _ (.head _), hk.symm, hb23⟩
      refine ih (zs.length - (i + 1)) (by omega) _ _ w4 ?_ ⟨i + 1, vr, v', zr, _, hil, rfl, hE3.trans hE34, hb43.ext0 hE34, hb23.ext0 hE34, hLr3.ext0 hE34, hLo3.ext0 hE34, ?_, ?_, hr2, hr4, apd_ne hapd u2 ho2, apd_ne hapd u4 ho4, fun k hk => apd_ne hapd (hLr2.own.row.lt hk) (hro k hk), rfl⟩
      · exact ⟨rfl, rfl, rfl, rfl, rfl, rfl, trivial⟩
      · rw [hsr, List.filter_append, hzr]; simp [hP]
      · rw [hsr, List.filter_append, List.map_append, hzo]; simp [hP]
    | false =>
      refine J.cond_f rfl ?_
      repeat (first | (apply JL.y; (first | (apply Y_move; rfl) | (apply Y_fieldAddr; rfl; rfl) | (apply Y_load1 1; rfl; rfl; rfl; exact inferInstance)); rfl) | refine J.region ?_)
      apply JL.y (Y_indexAddr rfl rfl (by omega)) rfl
      apply JL.y (Y_loadP rfl fun w' hw' => l1.at_ (hst hw' (by simp) (by simp)) fun _ _ _ h => h) rfl
      rw [hws]
      repeat (first | (apply JL.bslice1; rfl; rfl; rfl; rfl; rfl; rfl; intro _))
      refine JL.intro fun w2 hw2 => ?_
      have hE12 := hst hw2 (by simp) (by simp)
      have hLo2 := hLo.ext0 hE12
      have hLr2 := hLr.ext0 hE12
      have hx2 : Foot (fun w => MsgC w (msgC ws z.2) z.2) w2 (fun k => ok k ∧ k < w.heap.size) := ((MsgC.mk hwr hl8).old (hE.trans hE12) fun _ _ _ h => h)
      have hb4' := hw2.has _ (.tail _ (.head _))
      have hb2' := hw2.has _ (.tail _ (.tail _ (.head _)))
      have u4 := hb4'.lt
      have u2 := hb2'.lt
      simp only at u4 u2
      refine GL.append1 rfl rfl hLr2.own.row (hw2.has _ (.head _)) rfl rfl (msgC_one ho) (by simp; omega) rfl rfl fun v' w3 hrow hapd => ?_
      have hLr3 := hLr2.app hrow hapd hx2 (hE.trans hE12).size
      have hLo3 := hLo2.ext hapd.ext fun k _ hv => ⟨hLr2.new k hv, fun h => hro k hv h⟩
      have hb43 := hb4'.keep hapd.ext hr4
      have hb23 := hb2'.keep hapd.ext hr2
      have hE3 : Ext No w w3 := (hE.trans hE12).then hapd.ext fun k hk hv => by have := hLr2.new k hv; omega
      refine GL.of_JL (C := Cls w3 (fun k => k = b4 ∨ k = b2) [_, _]) (Cls.start2 hb43 hb23 b24) ?_
      repeat (first | (apply JL.y; (first | (apply Y_move; rfl) | (apply Y_assign; rfl) | (apply Y_add; rfl; rfl; omega)); rfl) | refine J.region ?_ | refine JL.nil ?_ | refine J.inBlock ?_)
      refine J.intro fun w4 hw4 => ?_
      have hE34 : Ext No w3 w4 := hw4.still fun k hk => hk.elim (fun hk => ⟨_, .head _, hk.symm, hb43⟩) fun hk => ⟨_, .tail _ (.head _), hk.symm, hb23⟩
      refine ih (zs.length - (i + 1)) (by omega) _ _ w4 ?_ ⟨i + 1, v', vo, _, zo, hil, rfl, hE3.trans hE34, hb43.ext0 hE34, hb23.ext0 hE34, hLr3.ext0 hE34, hLo3.ext0 hE34, ?_, ?_, apd_ne hapd u2 hr2, apd_ne hapd u4 hr4, ho2, ho4, fun k hk hv => apd_ne hapd (hLo2.own.row.lt hv) (fun h => hro k h hv) hk, rfl⟩
      · exact ⟨rfl, rfl, rfl, rfl, rfl, rfl, trivial⟩
      · rw [hsr, List.filter_append, List.map_append, hzr]; simp [hP]
      · rw [hsr, List.filter_append, hzo]; simp [hP]
  · have hie : i = zs.length := by omega
    rw [hie, List.take_of_length_le (by simp)] at hzr hzo
    repeat (first | (apply JL.y; (first | (apply Y_move; rfl) | (apply Y_assign; rfl) | (apply Y_fieldAddr; rfl; rfl) | (apply Y_loadW 1; rfl; rfl; exact inferInstance; rfl)); rfl) | refine J.seq ?_ | refine J.region ?_ | refine JL.nil ?_ | (apply JL.store; (first | (apply St_1 1; rfl; rfl; exact inferInstance; (first | rfl | assumption); rfl; rfl; (first | (focus (simp only [List.set_cons_zero, List.set_cons_succ]; done)) | (simp only [List.set_cons_zero, List.set_cons_succ]; rfl))) | (apply St_W 0; rfl; rfl; rfl; exact inferInstance; rfl; rfl; (first | (focus (simp [Value.oneCell']; done)) | (simp [Value.oneCell']; assumption) | (simp [Value.oneCell']; exact ⟨by assumption, by assumption⟩)); (first | (focus (simp only [List.set_cons_zero]; done)) | (simp only [List.set_cons_zero]; rfl))))) | (apply J.exit; rfl))
    refine J.ret2 Try.func36 Try.results36 (RV.W 0 rfl rfl rfl) (RV.tm rfl) fun w' hw' => ?_
    have hx := hw'.ext
    have hD : ∀ k, (k = b4 ∨ k = b2) → w.heap.size ≤ k := fun k hk => by omega
    refine ⟨_, rfl, hE.then hx fun k hk h => by have := hD k h; omega, vr, vo, zr, zo, rfl, hLr.ext hx fun k _ h => ⟨hD k h, fun h' => ?_⟩, hLo.ext hx fun k _ h => ⟨hD k h, fun h' => ?_⟩, hzr, hzo⟩
    · rcases h with rfl | rfl
      · exact hr4 h'
      · exact hr2 h'
    · rcases h with rfl | rfl
      · exact ho4 h'
      · exact ho2 h'
end Go.Proofs.Ytmkpbbdocndfbaa
/- law 10: LaneSame, the walk. -/
namespace Go.Proofs.Ytmkpbbdocndfbaa
open Go.RowKit Go.Proofs

attribute [local irreducible] JL J G GL GA GQ DR
/-- Where ways come together again, with what is known there of both the slots and the world. -/
theorem J.joinP {P : Program} {f n : Nat} {R : Ending → World → Prop} {k : List Item} {e : Env} {C : World → Prop} {α : Type} {i : Item} (C2 : α → World → Prop) (F : α → Env) (h1 : ∀ k', (∀ a, J P f n R (C2 a) k' (F a)) → J P f n R C (i :: k') e) (h2 : ∀ a, J P f n R (C2 a) k (F a)) : J P f n R C (i :: k) e := h1 k h2
theorem run_append0 {P : Program} {t el ty : TypeId} {sz : Nat} [h : SI P t el sz] (A : Option Addr) (c : Nat) (w : World) : (Builtin.append_ #[t, t] ty #[.slice none 0 0, .slice A 0 c]).run P w = .ok (.slice none 0 0) w := by
  cases A <;> simp [Builtin.append_, run_underlying h.und, h.sizeOf, Builtin.lenOf, Builtin.firstCells, loadCells, loadCellsFrom]
section
variable {P : Program} {n : Nat} {e : Env} {C : World → Prop} {ty t el sz : Nat} {pos : String} {aft : Array Edge} {dst : Option Tmp} {gd : Option (Nat × Bool)} {x y : Operand}
theorem Y_append0 [h : SI P t el sz] {A : Option Addr} {c : Nat} (hx : opv e x = some (.slice none 0 0)) (hy : opv e y = some (.slice A 0 c)) : Yl P C n e ⟨dst, .call { callee := .builtin .append, args := #[x, y], argTypes := #[t, t] }, ty, pos, aft, gd⟩ (.slice none 0 0) := fun a w ha _ => by
  simp [execOp, resolve, invoke, builtin, ha.eval hx, ha.eval hy, run_append0 (P := P) (t := t)]
theorem run_eqB {P : Program} {t : TypeId} (hu : P.underlying t = some .bool) (b : Bool) (w : World) : (Op.equal t (.bool b) (.bool b)).run P w = .ok true w := by
  unfold Op.equal Op.maxDepth
  rw [Op.equalIn]
  simp [run_underlying hu]
theorem Y_eqlB {t2 : TypeId} {b : Bool} (hu : P.underlying t = some .bool) (hx : opv e x = some (.bool b)) (hy : opv e y = some (.bool b)) : Yl P C n e ⟨dst, .binOp .eql t x y t2, ty, pos, aft, gd⟩ (.bool true) := fun a w ha _ => by
  simp [execOp, ha.eval hx, ha.eval hy, eqGuard, binOp, run_eqB hu]
end
attribute [local irreducible] Yl
theorem list_set_at (cs : List Value) (o : Nat) (v : Value) (h : o < cs.length) : cs.take o ++ [v] ++ cs.drop (o + 1) = cs.set o v := by
  rw [List.set_eq_take_append_cons_drop, if_pos h]; simp
theorem list_set_in (cs ch : List Value) (o s j : Nat) (v : Value) (hch : (cs.drop o).take s = ch) (hl : ch.length = s) (hj : j < s) (ho : o + s ≤ cs.length) : cs.take o ++ ch.set j v ++ cs.drop (o + s) = cs.set (o + j) v := by
  have h1 : cs = cs.take o ++ (ch ++ cs.drop (o + s)) := by
    rw [← hch]
    conv => lhs; rw [← List.take_append_drop o cs, ← List.take_append_drop s (cs.drop o)]
    rw [List.drop_drop]
  conv => rhs; rw [h1]
  have hto : (cs.take o).length = o := by rw [List.length_take]; omega
  rw [List.set_append_right _ _ (by omega), hto, Nat.add_sub_cancel_left, List.set_append_left _ _ (by omega)]
  simp
/-- One cell of an element of a row of one's own is stored. -/
theorem Row.store1 {P : Program} {w : World} {e sz g m c i j : Nat} {t t5 : TypeId} {zv z5 v : Value} {chs : List (List Value)} {ch : List Value} [h5 : TI P t5 true sz z5] [h1 : TI P t false 1 zv] (h : Row w e sz (.slice (some ⟨g, 0, none⟩) m c) chs) (hi : chs[i]? = some ch) (hj : j < sz) (hch : ∀ u ∈ ch, u.oneCell' = true) (hv : v.oneCell' = true) :
    ∃ w', (storeVar t ⟨g, i * sz + j, none⟩ v).run P w = .ok () w' ∧ Row w' e sz (.slice (some ⟨g, 0, none⟩) m c) (chs.set i (ch.set j v)) ∧ Ext (fun k => k = g) w w' := by
  have hil := (List.getElem?_eq_some_iff.1 hi).1
  have hcl : ch.length = sz := h.1 ch (List.mem_of_getElem? hi)
  obtain ⟨g', cap, cur, hv', hb, hc1, hc2, hcs, htk⟩ := h.block (by omega)
  cases hv'
  have hmul : (i + 1) * sz ≤ c * sz := Nat.mul_le_mul_right _ (by omega)
  have hmul2 : (i + 1) * sz ≤ chs.length * sz := Nat.mul_le_mul_right _ (by omega)
  rw [Nat.add_mul] at hmul hmul2
  have hb' : w.heap[g]? = some (.cells cur.toList.toArray e (0, 0)) := by simpa using hb
  have ho : ∀ u ∈ ch.set j v, u.oneCell' = true := fun u hu => by
    rcases List.mem_or_eq_of_mem_set hu with hu | rfl
    · exact hch u hu
    · exact hv
  obtain ⟨w', hw1, hw2, hw3⟩ := Row.store (P := P) (t := t5) h rfl (i := i) hil (x := .agg (ch.set j v).toArray) (l := ch.set j v) rfl (by rw [List.length_set]; exact hcl) ho
  have hA := run_storeVar (P := P) (t := t5) (v := .agg (ch.set j v).toArray) (l := ch.set j v) (o := i * sz) hb' rfl (by rw [List.length_set]; exact hcl) (by simp [hcs]; omega) ho
  have hB := run_storeVar (P := P) (t := t) (v := v) (l := [v]) (o := i * sz + j) hb' (by cases v <;> simp [Value.oneCell', Value.cells] at hv ⊢) rfl (by simp [hcs]; omega) (by simpa using hv)
  rw [add_lit, Nat.zero_add, hA] at hw1
  have hL : cur.toList.take (i * sz) ++ ch.set j v ++ cur.toList.drop (i * sz + sz) = cur.toList.take (i * sz + j) ++ [v] ++ cur.toList.drop (i * sz + j + 1) := by
    rw [list_set_at _ _ _ (by simp [hcs]; omega)]
    refine list_set_in _ _ _ _ _ _ ?_ hcl hj (by simp [hcs]; omega)
    have h3 : ((cur.toList.take (chs.length * sz)).drop (i * sz)).take sz = ch := by
      rw [htk, flatten_drop chs sz i h.1, List.drop_eq_getElem_cons hil, List.flatten_cons]
      have : chs[i] = ch := by rw [List.getElem?_eq_getElem hil] at hi; cases hi; rfl
      rw [this, ← hcl, List.take_left]
    rw [List.drop_take, List.take_take, Nat.min_eq_left (by omega)] at h3
    exact h3
  rw [hL] at hw1
  cases hw1
  exact ⟨_, hB, hw2, hw3⟩
/-- A list made since w0, of messages whose words lie in what was there. -/
structure Lst (w0 w : World) (v : Value) (zs : Zs) : Prop where
  own : Own 33 5 MsgC w (fun k => k < w0.heap.size) v zs
  new : ∀ k, v.ownBlock = some k → w0.heap.size ≤ k
section
variable {w0 w w1 : World} {v v' : Value} {zs : Zs} {D : Nat → Prop}
theorem Lst.nil (w0 w : World) : Lst w0 w (.slice none 0 0) [] := ⟨Own.nil _ _ _ _ _, fun k hk => by simp [Value.ownBlock] at hk⟩
theorem Lst.ext (h : Lst w0 w v zs) (he : Ext D w w1) (hD : ∀ k, k < w.heap.size → D k → w0.heap.size ≤ k ∧ v.ownBlock ≠ some k) : Lst w0 w1 v zs :=
  ⟨h.own.ext he (fun g hg hd => (hD g (h.own.row.lt hg) hd).2 hg) (fun k hk ho hd => by have := (hD k hk hd).1; omega), h.new⟩
theorem Lst.ext0 (h : Lst w0 w v zs) (he : Ext No w w1) : Lst w0 w1 v zs := h.ext he fun _ _ h => h.elim
theorem Lst.app (h : Lst w0 w v zs) {c : List Value} {m : Msg} (hrow : Row w1 33 5 v' (zs.map (·.1) ++ [c])) (ha : Apd w w1 v v') (hx : Foot (fun w => MsgC w c m) w (fun k => k < w0.heap.size)) (hs : w0.heap.size ≤ w.heap.size) : Lst w0 w1 v' (zs ++ [(c, m)]) := by
  have hn : ∀ k, v'.ownBlock = some k → w0.heap.size ≤ k := fun k hk => by
    rcases ha.at_ with h1 | h1 <;> rw [h1] at hk
    · exact h.new k hk
    · injection hk with hk; omega
  refine ⟨(h.own.append hrow ha hx fun k _ hk hv => by have := h.new k hv; omega).mono (fun k _ hk => by rcases hk.1 with h1 | h1 <;> exact h1) (fun k hk hv => by have := hn k hv; omega), hn⟩
theorem Lst.rd (h : Lst w0 w v zs) : Rd 5 MsgC w All v zs := h.own.reads.mono fun _ _ _ => trivial
end

set_option maxHeartbeats 2000000 in
theorem laneSame10_walk {w : World} {va vb : Value} {za zb : List (List Value × Stp)} {n : Int} (ha : Rd 7 StpC w All va za) (hb : Rd 7 StpC w All vb zb) :
    Calls Try.prog 5 #[va, vb, .int .i64 n] w fun e w' => e = .returned (.bool true) ∧ Ext No w w' := by
  obtain ⟨Aa, ca, rfl, hca, hma⟩ := ha.slice
  obtain ⟨Ab, cb, rfl, hcb, hmb⟩ := hb.slice
  refine Calls.of_G3 Try.func5 rfl Try.ntmps5 rfl ?_
  refine J.at (C := Cls w No []) ?_ (Cls.start _ _)
  repeat (first | (apply JL.y; (first | (apply Y_assign; rfl) | (apply Y_not; rfl)); rfl) | refine J.seq ?_ | refine J.region ?_ | refine JL.nil ?_ | (apply JL.callq; rfl; rfl; (intro wc hwc; first | exact lives10_spec _)))
  apply J.cond_f rfl
  repeat (first | refine J.skip ?_)
  refine J.seq ?_
  repeat (first | (apply JL.y; (apply Y_assign; rfl); rfl) | refine J.region ?_ | refine JL.nil ?_)
  refine J.seq ?_
  refine J.joinP (α := Value × Zs) (fun q w' => Ext No w w' ∧ Lst w w' q.1 q.2 ∧ q.2.map (·.2) = (za.take 6).map (fun z => z.2.m.cut8)) (fun q => [(0, .slice Aa za.length ca), (1, .slice Ab zb.length cb), (2, .int .i64 n), (7, q.1), (8, .slice none 0 0)]) (fun k' hj => ?_) (fun ⟨xa, zsa⟩ => ?_)
  · repeat (first | (apply JL.y; (apply Y_assign; rfl); rfl) | refine J.seq ?_ | refine J.region ?_ | refine JL.nil ?_ | refine J.block ?_)
    refine J.intro fun wl hwl => G.loop (Inv := fun mm e wl => ∃ (i : Nat) (x : Value) (zs : Zs), i ≤ za.length ∧ i ≤ 6 ∧ mm = 6 - i ∧ Ext No w wl ∧ Lst w wl x zs ∧ zs.map (·.2) = (za.take i).map (fun z => z.2.m.cut8) ∧ e = [(0, .slice Aa za.length ca), (1, .slice Ab zb.length cb), (2, .int .i64 n), (7, x), (8, .slice none 0 0), (9, .int .i64 i)])
      _ _ ⟨0, _, [], Nat.zero_le _, Nat.zero_le _, rfl, hwl.ext, Lst.nil _ _, rfl, rfl⟩ ⟨rfl, rfl, rfl, rfl, rfl, rfl, trivial⟩ ?_
    rintro mm e w1 ⟨i, x, zs, hi, hi6, rfl, hE, hL, hz, rfl⟩ ih
    refine J.at (C := Cls w1 No []) ?_ (Cls.start _ _)
    have hzl : zs.length ≤ 6 := by
      have := congrArg List.length hz
      simp at this; omega
    repeat (first | (apply JL.y; (first | (apply Y_move; rfl) | (apply Y_len; rfl) | (apply Y_lss; rfl; rfl)); rfl) | refine J.seq ?_ | refine J.region ?_)
    by_cases hlt : (i : Int) < za.length
    case neg =>
      rw [decide_eq_false hlt]
      repeat (first | (apply JL.y; (apply Y_pick_f; rfl; rfl); rfl) | refine JL.nil ?_ | (apply JL.guard_no; rfl; rfl; rfl; rfl; rfl))
      apply J.cond_f rfl
      repeat (first | (apply J.exit; rfl))
      refine J.imp (J.weak (hj (x, zs)) ⟨rfl, rfl, rfl, rfl, rfl, trivial⟩) fun w' hw' => ⟨hE.trans hw'.ext, hL.ext0 hw'.ext, ?_⟩
      rw [hz, List.take_of_length_le (by omega), List.take_of_length_le (by omega)]
    rw [decide_eq_true hlt]
    repeat (first | (apply JL.y; (first | (apply Y_move; rfl) | (apply Y_lss; rfl; rfl) | (apply Y_pick_t; rfl; rfl)); rfl) | refine JL.nil ?_ | (apply JL.guard_yes; rfl; rfl; rfl))
    refine J.cond_d rfl (fun hlt6 => ?_) (fun hlt6 => ?_)
    case refine_2 =>
      have hi6' : i = 6 := by omega
      subst hi6'
      repeat (first | (apply J.exit; rfl))
      exact J.imp (J.weak (hj (x, zs)) ⟨rfl, rfl, rfl, rfl, rfl, trivial⟩) fun w' hw' => ⟨hE.trans hw'.ext, hL.ext0 hw'.ext, hz⟩
    have hil : i < za.length := by omega
    obtain ⟨z, hx⟩ : ∃ z, za[i]? = some z := ⟨_, List.getElem?_eq_getElem hil⟩
    obtain ⟨ad, _, e1⟩ := ha.base (by omega) (by omega)
    cases e1
    have l1 := ((ha.lds (P := Try.prog) (t := 35) hx).ext0 hE)
    obtain ⟨ws, hws, hwr, ho⟩ := StpC.open_ (ha.el z (List.mem_of_getElem? hx))
    obtain ⟨zc, s⟩ := z
    simp only at hws hwr
    subst hws
    have hwr1 := hwr.old hE fun _ _ _ h => h
    unfold maxLen at hma
    repeat (first | (apply JL.y; (apply Y_move; rfl); rfl) | refine J.seq ?_ | refine J.region ?_ | refine J.skip ?_ | refine J.block ?_)
    apply JL.y (Y_indexAddr rfl rfl (by omega)) rfl
    apply JL.y (Y_loadP rfl fun w hw => l1.at_ hw.ext fun _ _ _ h => h) rfl
    refine JL.call _ rfl rfl (fun w2 hw2 => message10_spec (hwr1.ext0 hw2.ext)) fun w2 r w3 hw2 ⟨hE3, ws', hr, hF3, ho3⟩ => ?_
    subst hr
    refine GL.of_JL (C := Cls w3 No []) (Cls.start _ _) ?_
    unfold msgC
    repeat (first | (apply JL.bslice1; rfl; rfl; rfl; rfl; rfl; rfl; intro _))
    refine JL.intro fun w4 hw4 => ?_
    have hE4 : Ext No w1 w4 := (hw2.ext.trans hE3).trans hw4.ext
    have hL4 := hL.ext0 hE4
    refine GL.append1 rfl rfl hL4.own.row (hw4.has _ (.head _)) rfl rfl (msgC_one ho3) (by simp; omega) rfl rfl fun v' w5 hrow hapd => ?_
    have hx4 : Foot (fun w => MsgC w (msgC ws' s.m.cut8) s.m.cut8) w4 (fun k => k < w.heap.size) := ((MsgC.mk hF3 (cut8_len s.m)).ext0 hw4.ext).mono fun k _ hk => hk.2
    have hL5 := hL4.app hrow hapd hx4 (hE.trans hE4).size
    have hE5 : Ext No w w5 := (hE.trans hE4).then hapd.ext fun k hk hv => by have := hL.new k hv; omega
    refine GL.of_JL (C := Cls w5 No []) (Cls.start _ _) ?_
    repeat (first | (apply JL.y; (first | (apply Y_move; rfl) | (apply Y_assign; rfl) | (apply Y_add; rfl; rfl; omega)); rfl) | refine J.region ?_ | refine JL.nil ?_ | refine J.inBlock ?_)
    refine J.intro fun w6 hw6 => ih (6 - (i + 1)) (by omega) _ _ w6 ?_ ⟨i + 1, v', _, hil, by omega, rfl, hE5.trans hw6.ext, hL5.ext0 hw6.ext, ?_, rfl⟩
    · exact ⟨rfl, rfl, rfl, rfl, rfl, rfl, trivial⟩
    · rw [take_snoc hx, List.map_append, List.map_append, hz]; rfl
  simp only
  refine J.intro fun wa ⟨hEa, hLa, hza⟩ => J.at (C := Cls wa No []) ?_ (Cls.start _ _)
  refine J.seq ?_
  refine J.joinP (α := Value × Zs) (fun q w' => Ext No w w' ∧ Lst w w' q.1 q.2 ∧ q.2.map (·.2) = (zb.take 6).map (fun z => z.2.m.cut8) ∧ Lst w w' xa zsa ∧ (∀ k, xa.ownBlock = some k → q.1.ownBlock ≠ some k)) (fun q => [(2, .int .i64 n), (7, xa), (8, q.1)]) (fun k' hj => ?_) (fun ⟨xb, zsb⟩ => ?_)
  · repeat (first | (apply JL.y; (apply Y_assign; rfl); rfl) | refine J.seq ?_ | refine J.region ?_ | refine JL.nil ?_ | refine J.block ?_)
    refine J.intro fun wl hwl => G.loop (Inv := fun mm e wl => ∃ (i : Nat) (x : Value) (zs : Zs), i ≤ zb.length ∧ i ≤ 6 ∧ mm = 6 - i ∧ Ext No w wl ∧ Lst w wl x zs ∧ zs.map (·.2) = (zb.take i).map (fun z => z.2.m.cut8) ∧ Lst w wl xa zsa ∧ (∀ k, xa.ownBlock = some k → x.ownBlock ≠ some k) ∧ e = [(1, .slice Ab zb.length cb), (2, .int .i64 n), (7, xa), (8, x), (10, .int .i64 i)])
      _ _ ⟨0, _, [], Nat.zero_le _, Nat.zero_le _, rfl, hEa.trans hwl.ext, Lst.nil _ _, rfl, hLa.ext0 hwl.ext, fun k _ hk => by simp [Value.ownBlock] at hk, rfl⟩ ⟨rfl, rfl, rfl, rfl, rfl, trivial⟩ ?_
    rintro mm e w1 ⟨i, x, zs, hi, hi6, rfl, hE, hL, hz, hLx, hap, rfl⟩ ih
    refine J.at (C := Cls w1 No []) ?_ (Cls.start _ _)
    have hzl : zs.length ≤ 6 := by
      have := congrArg List.length hz
      simp at this; omega
    repeat (first | (apply JL.y; (first | (apply Y_move; rfl) | (apply Y_len; rfl) | (apply Y_lss; rfl; rfl)); rfl) | refine J.seq ?_ | refine J.region ?_)
    by_cases hlt : (i : Int) < zb.length
    case neg =>
      rw [decide_eq_false hlt]
      repeat (first | (apply JL.y; (apply Y_pick_f; rfl; rfl); rfl) | refine JL.nil ?_ | (apply JL.guard_no; rfl; rfl; rfl; rfl; rfl))
      apply J.cond_f rfl
      repeat (first | (apply J.exit; rfl))
      refine J.imp (J.weak (hj (x, zs)) ⟨rfl, rfl, rfl, trivial⟩) fun w' hw' => ⟨hE.trans hw'.ext, hL.ext0 hw'.ext, ?_, hLx.ext0 hw'.ext, hap⟩
      rw [hz, List.take_of_length_le (by omega), List.take_of_length_le (by omega)]
    rw [decide_eq_true hlt]
    repeat (first | (apply JL.y; (first | (apply Y_move; rfl) | (apply Y_lss; rfl; rfl) | (apply Y_pick_t; rfl; rfl)); rfl) | refine JL.nil ?_ | (apply JL.guard_yes; rfl; rfl; rfl))
    refine J.cond_d rfl (fun hlt6 => ?_) (fun hlt6 => ?_)
    case refine_2 =>
      have hi6' : i = 6 := by omega
      subst hi6'
      repeat (first | (apply J.exit; rfl))
      exact J.imp (J.weak (hj (x, zs)) ⟨rfl, rfl, rfl, trivial⟩) fun w' hw' => ⟨hE.trans hw'.ext, hL.ext0 hw'.ext, hz, hLx.ext0 hw'.ext, hap⟩
    have hil : i < zb.length := by omega
    obtain ⟨z, hx⟩ : ∃ z, zb[i]? = some z := ⟨_, List.getElem?_eq_getElem hil⟩
    obtain ⟨ad, _, e1⟩ := hb.base (by omega) (by omega)
    cases e1
    have l1 := ((hb.lds (P := Try.prog) (t := 35) hx).ext0 hE)
    obtain ⟨ws, hws, hwr, ho⟩ := StpC.open_ (hb.el z (List.mem_of_getElem? hx))
    obtain ⟨zc, s⟩ := z
    simp only at hws hwr
    subst hws
    have hwr1 := hwr.old hE fun _ _ _ h => h
    unfold maxLen at hmb
    repeat (first | (apply JL.y; (apply Y_move; rfl); rfl) | refine J.seq ?_ | refine J.region ?_ | refine J.skip ?_ | refine J.block ?_)
    apply JL.y (Y_indexAddr rfl rfl (by omega)) rfl
    apply JL.y (Y_loadP rfl fun w hw => l1.at_ hw.ext fun _ _ _ h => h) rfl
    refine JL.call _ rfl rfl (fun w2 hw2 => message10_spec (hwr1.ext0 hw2.ext)) fun w2 r w3 hw2 ⟨hE3, ws', hr, hF3, ho3⟩ => ?_
    subst hr
    refine GL.of_JL (C := Cls w3 No []) (Cls.start _ _) ?_
    unfold msgC
    repeat (first | (apply JL.bslice1; rfl; rfl; rfl; rfl; rfl; rfl; intro _))
    refine JL.intro fun w4 hw4 => ?_
    have hE4 : Ext No w1 w4 := (hw2.ext.trans hE3).trans hw4.ext
    have hL4 := hL.ext0 hE4
    refine GL.append1 rfl rfl hL4.own.row (hw4.has _ (.head _)) rfl rfl (msgC_one ho3) (by simp; omega) rfl rfl fun v' w5 hrow hapd => ?_
    have hx4 : Foot (fun w => MsgC w (msgC ws' s.m.cut8) s.m.cut8) w4 (fun k => k < w.heap.size) := ((MsgC.mk hF3 (cut8_len s.m)).ext0 hw4.ext).mono fun k _ hk => hk.2
    have hL5 := hL4.app hrow hapd hx4 (hE.trans hE4).size
    have hE5 : Ext No w w5 := (hE.trans hE4).then hapd.ext fun k hk hv => by have := hL.new k hv; omega
    refine GL.of_JL (C := Cls w5 No []) (Cls.start _ _) ?_
    repeat (first | (apply JL.y; (first | (apply Y_move; rfl) | (apply Y_assign; rfl) | (apply Y_add; rfl; rfl; omega)); rfl) | refine J.region ?_ | refine JL.nil ?_ | refine J.inBlock ?_)
    refine J.intro fun w6 hw6 => ih (6 - (i + 1)) (by omega) _ _ w6 ?_ ⟨i + 1, v', _, hil, by omega, rfl, hE5.trans hw6.ext, hL5.ext0 hw6.ext, ?_, ?_, ?_, rfl⟩
    · exact ⟨rfl, rfl, rfl, rfl, rfl, trivial⟩
    · rw [take_snoc hx, List.map_append, List.map_append, hz]; rfl
    · exact ((hLx.ext0 hE4).ext hapd.ext fun k hk hv => ⟨hL.new k hv, fun hxa => hap k hxa hv⟩).ext0 hw6.ext
    · intro k hxa hv
      rcases hapd.at_ with h1 | h1 <;> rw [h1] at hv
      · exact hap k hxa hv
      · injection hv with hv
        have := (hLx.ext0 hE4).own.row.lt hxa
        omega
  simp only
  refine J.intro fun wb ⟨hEb, hLb, hzb, hLa2, hap⟩ => J.at (C := Cls wb No []) ?_ (Cls.start _ _)
  have hx : Rd 5 MsgC wb All xa zsa := hLa2.rd
  have hy : Rd 5 MsgC wb All xb zsb := hLb.rd
  obtain ⟨A1, c1, hr1, hcap1, hmx1⟩ := hLa2.own.slice
  subst hr1
  by_cases h0 : zsa = []
  · subst h0
    have hzz : Rd 5 MsgC wb All (.slice none 0 0) [] := Rd.nil _ _ _ _
    repeat (first | (apply JL.y; (first | (apply Y_move; rfl) | (apply Y_assign; rfl)); rfl) | refine J.seq ?_ | refine J.region ?_ | refine JL.nil ?_)
    apply JL.y (Y_append0 rfl rfl) rfl
    repeat (first | (apply JL.y; (first | (apply Y_move; rfl) | (apply Y_assign; rfl) | (apply Y_len; rfl) | (apply Y_gtr; rfl; rfl)); rfl) | refine J.seq ?_ | refine J.region ?_ | refine JL.nil ?_)
    refine J.cond_d rfl (fun h => by exfalso; omega) (fun _ => ?_)
    repeat (first | (apply JL.y; (apply Y_move; rfl); rfl) | refine J.seq ?_ | refine J.region ?_ | (apply JL.callq; rfl; rfl; (intro wc hwc; first | exact laneSame_spec (hx.ext0 hwc.ext) (hy.ext0 hwc.ext) | exact same_spec (hx.ext0 hwc.ext) (hy.ext0 hwc.ext))) | refine J.skip ?_)
    apply JL.y (Y_eqlB Try.underlying4 rfl rfl) rfl
    repeat (first | (apply JL.y; (apply Y_move; rfl); rfl) | (apply JL.callq; rfl; rfl; (intro wc hwc; first | exact laneSame_spec (hx.ext0 hwc.ext) (hzz.ext0 hwc.ext) | exact same_spec (hx.ext0 hwc.ext) (hzz.ext0 hwc.ext))) | (apply JL.guard_yes; rfl; rfl; rfl))
    apply JL.y (Y_eqlB Try.underlying4 rfl rfl) rfl
    repeat (first | (apply JL.y; (first | (apply Y_move; rfl) | (apply Y_assign; rfl) | (apply Y_pick_t; rfl; rfl)); rfl) | refine JL.nil ?_ | (apply JL.callq; rfl; rfl; (intro wc hwc; first | exact laneSame_spec (hx.ext0 hwc.ext) (hx.ext0 hwc.ext))) | (apply JL.guard_yes; rfl; rfl; rfl))
    exact J.ret1 Try.func5 Try.results5 (RV.tm rfl) fun w' hw => ⟨ret_bool (by simp), hEb.trans hw.ext⟩
  have hL0 : 0 < zsa.length := List.length_pos_iff.2 h0
  have hL6 : zsa.length ≤ 6 := by have := congrArg List.length hza; simp at this; omega
  obtain ⟨ad, _, e1⟩ := hx.base (by omega) hL0
  cases e1
  obtain ⟨hp, hone⟩ := prs_eq (xs := zsa) fun z hz => by obtain ⟨ws, h1, _, _, h2⟩ := MsgC.open_ (hx.el z hz); exact ⟨ws, h1, h2⟩
  have honec : ∀ ch ∈ zsa.map (·.1), ∀ u ∈ ch, u.oneCell' = true := fun ch hch => by
    obtain ⟨z, hz, rfl⟩ := List.mem_map.1 hch
    obtain ⟨ws, hws, _, _, ho⟩ := MsgC.open_ (hx.el z hz)
    rw [hws]; exact msgC_one ho
  repeat (first | (apply JL.y; (first | (apply Y_move; rfl) | (apply Y_assign; rfl)); rfl) | refine J.seq ?_ | refine J.region ?_ | refine JL.nil ?_)
  refine JL.intro fun w1 hw1 => ?_
  refine GL.append rfl rfl (by decide) (Row.nil w1 _ _) (zsa.map (·.1)) (by simp) (by simpa using hx.row.now.size) (rrow_news (hx.row.at_ hw1.ext fun _ _ _ h => h) (by decide)) honec (by simp; omega) (by simp [maxLen]; omega) rfl fun v' w2 hrow hapd => ?_
  have hE12 : Ext No wb w2 := hw1.ext.then hapd.ext fun k _ hk => by simp [Value.ownBlock] at hk
  have hx2 := hx.ext0 hE12
  have hy2 := hy.ext0 hE12
  have hrow2 : Row w2 33 5 v' (zsa.map (·.1)) := by simpa using hrow
  obtain ⟨g, cap, cur, hv', _⟩ := hrow2.block (by simpa using hL0)
  subst hv'
  rw [List.length_map] at hrow2 hapd ⊢
  have hg : wb.heap.size ≤ g := by
    have := hw1.ext.size
    rcases hapd.at_ with h1 | h1 <;> simp [Value.ownBlock] at h1
    omega
  refine GL.of_JL (C := Cls w2 No []) (Cls.start _ _) ?_
  repeat (first | (apply JL.y; (first | (apply Y_move; rfl) | (apply Y_assign; rfl) | (apply Y_len; rfl) | (apply Y_gtr; rfl; rfl)); rfl) | refine J.seq ?_ | refine J.region ?_ | refine JL.nil ?_)
  refine J.cond_d rfl (fun _ => ?_) (fun h => by exfalso; omega)
  obtain ⟨q, hq⟩ : ∃ q, q = (IntKind.u64.wrap n).tmod zsa.length := ⟨_, rfl⟩
  have hw0 := wrap_u64_nonneg n
  have hq0 : 0 ≤ q := by rw [hq]; exact Int.tmod_nonneg _ hw0
  have hq1 : q < zsa.length := by rw [hq]; exact Int.tmod_lt_of_pos _ (by omega)
  repeat (first | (apply JL.y; (apply Y_move; rfl); rfl) | refine J.region ?_)
  apply JL.y (Y_conv rfl) rfl
  repeat (first | (apply JL.y; (first | (apply Y_move; rfl) | (apply Y_len; rfl) | (apply Y_convU; rfl; omega)); rfl))
  apply JL.y (Y_rem rfl rfl (by omega)) rfl
  rw [← hq]
  repeat (first | (apply JL.y; (first | (apply Y_move; rfl) | (apply Y_convI; rfl; omega)); rfl))
  apply JL.y (Y_indexAddr rfl rfl (by omega)) rfl
  rw [add_lit]
  repeat (first | (apply JL.y; (apply Y_fieldAddr; rfl; rfl); rfl))
  obtain ⟨z, hz⟩ : ∃ z, zsa[q.toNat]? = some z := ⟨_, List.getElem?_eq_getElem (by omega)⟩
  have hzm := List.mem_of_getElem? hz
  obtain ⟨ws, hws, hwr, hl8, ho⟩ := MsgC.open_ (hLa2.own.el z hzm)
  have hchz : (zsa.map (·.1))[q.toNat]? = some (msgC ws z.2) := by simp [hz, hws]
  apply JL.storeP (C' := fun w' => Row w' 33 5 (.slice (some ⟨g, 0, none⟩) zsa.length cap) ((zsa.set q.toNat (msgC ws { z.2 with late := n }, { z.2 with late := n })).map (·.1)) ∧ Ext (fun k => k = g) w2 w') rfl rfl
  · intro w5 hw5
    obtain ⟨w6, h1, h2, h3⟩ := Row.store1 (P := Try.prog) (t := 3) (t5 := 33) (j := 3) (v := .int .i64 n) (hrow2.ext0 hw5.ext) hchz (by decide) (msgC_one ho) rfl
    refine ⟨w6, by simpa using h1, ?_, hw5.ext.no.trans h3⟩
    rw [List.map_set]
    exact h2
  refine JL.intro fun w4 ⟨hR4, hE4⟩ => ?_
  have hEb4 : Ext No wb w4 := hE12.then hE4 fun k hk hkg => by
    have hkg' : k = g := hkg
    omega
  have hsw := hEb.size
  have hx := (hLa2.ext0 hEb4).rd
  have hy := (hLb.ext0 hEb4).rd
  have hzz : Rd 5 MsgC w4 All (.slice (some ⟨g, 0, none⟩) zsa.length cap) (zsa.set q.toNat (msgC ws { z.2 with late := n }, { z.2 with late := n })) := by
    refine ⟨((Row.foot hR4).imp fun w hw => Row.rrow hw).mono fun _ _ _ => trivial, fun y hy => ?_⟩
    rcases List.mem_or_eq_of_mem_set hy with hy | rfl
    · exact (((hLa2.own.el y hy).ext0 hEb4)).mono fun _ _ _ => trivial
    · exact ((MsgC.mk (m := { z.2 with late := n }) hwr hl8).ext0 hEb4).mono fun _ _ _ => trivial
  refine GL.of_JL (C := Cls w4 No []) (Cls.start _ _) ?_
  repeat (first | (apply JL.y; (apply Y_move; rfl); rfl) | refine J.seq ?_ | refine J.region ?_ | refine JL.nil ?_ | (apply JL.callq; rfl; rfl; (intro wc hwc; first | exact laneSame_spec (hx.ext0 hwc.ext) (hy.ext0 hwc.ext) | exact same_spec (hx.ext0 hwc.ext) (hy.ext0 hwc.ext))))
  apply JL.y (Y_eqlB Try.underlying4 rfl rfl) rfl
  repeat (first | (apply JL.y; (apply Y_move; rfl); rfl) | (apply JL.callq; rfl; rfl; (intro wc hwc; first | exact laneSame_spec (hx.ext0 hwc.ext) (hzz.ext0 hwc.ext) | exact same_spec (hx.ext0 hwc.ext) (hzz.ext0 hwc.ext))) | (apply JL.guard_yes; rfl; rfl; rfl))
  apply JL.y (Y_eqlB Try.underlying4 rfl rfl) rfl
  repeat (first | (apply JL.y; (first | (apply Y_move; rfl) | (apply Y_assign; rfl) | (apply Y_pick_t; rfl; rfl)); rfl) | refine JL.nil ?_ | (apply JL.callq; rfl; rfl; (intro wc hwc; first | exact laneSame_spec (hx.ext0 hwc.ext) (hx.ext0 hwc.ext))) | (apply JL.guard_yes; rfl; rfl; rfl))
  exact J.ret1 Try.func5 Try.results5 (RV.tm rfl) fun w' hw => ⟨ret_bool (by simp), (hEb.trans hEb4).trans hw.ext⟩
end Go.Proofs.Ytmkpbbdocndfbaa
/- The document's lanes: Put. -/
namespace Go.Proofs.Ytmkpbbdocndfbaa
open Go.RowKit Go.Proofs
attribute [local irreducible] Yl JL J G GL GA GQ DR

theorem Apd.refl (w : World) (v : Value) : Apd w w v v := ⟨.refl _ _, .inl rfl⟩
section
variable {P : Program} {f n : Nat} {R : Ending → World → Prop} {k : List Item} {e : Env} {w : World} {ops : Array Oper} {rest : List Oper} {ty t : TypeId} {pos : String} {aft : Array Edge} {d el sz bytes : Nat} {v u : Value} {x y : Operand} {chs : List (List Value)}
/-- An append of what is read, to a row of one's own. -/
theorem GL.appendR {z : Value} [ha : AI P t el z sz bytes] [hs : SI P t el sz] (hx : opv e x = some v) (hy : opv e y = some u) (hsz : 0 < sz) (hr : Row w el sz v chs) {news : List (List Value)} (hn : RRow w sz u news) (h1 : ∀ ch ∈ news, ∀ u ∈ ch, u.oneCell' = true)
    (hb : chs.length + news.length ≤ 2000000) (hby : bytes ≤ 1000) (hd : Nat.blt d n = true) (hk : ∀ v' w', Row w' el sz v' (chs ++ news) → Apd w w' v v' → GL P f n R ops rest k ((d, v') :: e) w') :
    GL P f n R ops (⟨some d, .call { callee := .builtin .append, args := #[x, y], argTypes := #[t, t] }, ty, pos, aft, none⟩ :: rest) k e w := by
  obtain ⟨A, c, rfl, hc, hm⟩ := hn.slice
  rcases Nat.eq_zero_or_pos news.length with h0 | h0
  · have hnil := List.eq_nil_of_length_eq_zero h0
    subst hnil
    obtain ⟨B, c2, hv, hc2, _⟩ := hr.slice
    subst hv
    have hk' := hk _ w (by simpa using hr) (Apd.refl _ _)
    unfold GL at hk' ⊢
    intro a hf
    refine wpList_val rfl ?_ (hk' _ (hf.put (by simpa using hd) _))
    have := run_appendN (P := P) (t := t) (el := el) (sz := sz) (ty := ty) (A := A) (B := B) (c' := c) hc2 w
    simp [execOp, resolve, invoke, builtin, hf.eval hx, hf.eval hy, this]
  · obtain ⟨ad, c', e1⟩ := hn.some hsz h0
    cases e1
    have hmul := Nat.mul_le_mul hb hby
    exact GL.append hx hy hsz hr news rfl hn.size (rrow_news hn hsz) h1 (by omega) (by simp [maxLen]; omega) hd hk
end
theorem MsgC.ones {w : World} {ok : Nat → Prop} {zs : Zs} (h : ∀ z ∈ zs, Foot (fun w => MsgC w z.1 z.2) w ok) : ∀ ch ∈ zs.map (·.1), ∀ u ∈ ch, u.oneCell' = true := fun ch hch => by
  obtain ⟨z, hz, rfl⟩ := List.mem_map.1 hch
  obtain ⟨ws, hws, _, _, ho⟩ := MsgC.open_ (h z hz)
  rw [hws]; exact msgC_one ho
/-- What the document's Put makes of a list in its row. -/
def rputR (ln pl : Int) (ms : List Msg) (m : Msg) : Int × List Msg :=
  if ¬ (0 ≤ m.lane ∧ m.lane < ln) then (3, ms) else if room ln pl ms m.lane = 0 then (10, ms) else (0, St.ins Msg.lane m ms)
set_option maxHeartbeats 2000000 in
/-- empennageref10.Put. -/
theorem rPut_spec {w : World} {ok : Nat → Prop} {v : Value} {zs : Zs} {ln pl : Int} (h : Rd 5 MsgC w ok v zs) (hn : zs.length ≤ 1000) (hp : 0 ≤ pl ∧ pl ≤ 1000000) (hsrt : St.Srt Msg.lane (zs.map (·.2))) {ws : Value} {m : Msg} (hm : Foot (fun w => RInts w ws m.words) w ok) (hl8 : m.words.length ≤ 8) :
    Calls Try.prog 29 #[.agg (rlC ln pl v).toArray, .agg (msgC ws m).toArray] w fun e w' => ∃ r, e = .returned r ∧ Ext No w w' ∧ ∃ v' zs', r = .tuple #[.agg (rlC ln pl v').toArray, .int .i64 (rputR ln pl (zs.map (·.2)) m).1] ∧
      Rd 5 MsgC w' (fun k => ok k ∨ w.heap.size ≤ k) v' zs' ∧ zs'.map (·.2) = (rputR ln pl (zs.map (·.2)) m).2 := by
  have ho := hm.now.one
  have hvone : v.oneCell' = true := by obtain ⟨A, c, rfl, _⟩ := h.slice; rfl
  refine Calls.of_G2 Try.func29 rfl Try.ntmps29 rfl ?_
  refine J.at (C := Cls w No []) ?_ (Cls.start _ _)
  unfold rlC msgC
  repeat (first | (apply JL.y; (first | (apply Y_move; rfl) | (apply Y_assign; rfl) | (apply Y_fieldAddr; rfl; rfl) | (apply Y_load1 1; rfl; rfl; rfl; exact inferInstance) | (apply Y_lss; rfl; rfl)); rfl) | refine J.seq ?_ | refine J.region ?_ | refine JL.nil ?_ | (apply JL.box; rfl; rfl; rfl; intro _) | (apply JL.alloc; rfl; rfl; intro _))
  rename_i b2 b3 b4
  by_cases h0 : m.lane < 0
  · have hr : rputR ln pl (zs.map (·.2)) m = (3, zs.map (·.2)) := by rw [rputR, if_pos (by omega)]
    rw [hr, decide_eq_true h0]
    repeat (first | (apply JL.y; (apply Y_pick_t; rfl; rfl); rfl) | refine JL.nil ?_ | (apply JL.guard_no; rfl; rfl; rfl; rfl; rfl))
    apply J.cond_t rfl
    repeat (first | (apply JL.y; (first | (apply Y_assign; rfl) | (apply Y_loadW 2; rfl; rfl; exact inferInstance; rfl)); rfl) | refine J.seq ?_ | refine J.region ?_ | refine JL.nil ?_ | (apply JL.store; (apply St_W 0; rfl; rfl; rfl; exact inferInstance; rfl; rfl; (first | (focus (simp [Value.oneCell']; done)) | (simp [Value.oneCell']; assumption) | (simp [Value.oneCell']; exact ⟨by assumption, by assumption⟩)); (first | (focus (simp only [List.set_cons_zero]; done)) | (simp only [List.set_cons_zero]; rfl)))))
    exact J.ret2 Try.func29 Try.results29 (RV.W 0 rfl rfl rfl) (RV.tm rfl) fun w' hw' => ⟨_, rfl, hw'.ext, v, zs, rfl, (h.ext0 hw'.ext).mono fun k _ hk => .inl hk, rfl⟩
  rw [decide_eq_false h0]
  repeat (first | (apply JL.y; (first | (apply Y_fieldAddr; rfl; rfl) | (apply Y_load1 1; rfl; rfl; rfl; exact inferInstance) | (apply Y_load1 2; rfl; rfl; rfl; exact inferInstance) | (apply Y_geq; rfl; rfl) | (apply Y_pick_f; rfl; rfl)); rfl) | refine JL.nil ?_ | (apply JL.guard_yes; rfl; rfl; rfl))
  refine J.cond_d rfl (fun h1 => ?_) (fun h1 => ?_)
  · have hr : rputR ln pl (zs.map (·.2)) m = (3, zs.map (·.2)) := by rw [rputR, if_pos (by omega)]
    rw [hr]
    repeat (first | (apply JL.y; (first | (apply Y_assign; rfl) | (apply Y_loadW 2; rfl; rfl; exact inferInstance; rfl)); rfl) | refine J.seq ?_ | refine J.region ?_ | refine JL.nil ?_ | (apply JL.store; (apply St_W 0; rfl; rfl; rfl; exact inferInstance; rfl; rfl; (first | (focus (simp [Value.oneCell']; done)) | (simp [Value.oneCell']; assumption) | (simp [Value.oneCell']; exact ⟨by assumption, by assumption⟩)); (first | (focus (simp only [List.set_cons_zero]; done)) | (simp only [List.set_cons_zero]; rfl)))))
    exact J.ret2 Try.func29 Try.results29 (RV.W 0 rfl rfl rfl) (RV.tm rfl) fun w' hw' => ⟨_, rfl, hw'.ext, v, zs, rfl, (h.ext0 hw'.ext).mono fun k _ hk => .inl hk, rfl⟩
  have h01 : ¬ ¬ (0 ≤ m.lane ∧ m.lane < ln) := by omega
  repeat (first | (apply JL.y; (first | (apply Y_fieldAddr; rfl; rfl) | (apply Y_load1 1; rfl; rfl; rfl; exact inferInstance) | (apply Y_loadW 2; rfl; rfl; exact inferInstance; rfl) | (apply Y_eql; rfl; rfl)); rfl) | refine J.seq ?_ | refine J.region ?_ | refine JL.nil ?_ | (apply JL.callq; rfl; rfl; (intro wc hwc; first | exact rRoom_spec (h.ext0 hwc.ext) (by omega) hp _)) | refine J.skip ?_)
  refine J.cond_d rfl (fun h2 => ?_) (fun h2 => ?_)
  · have hr : rputR ln pl (zs.map (·.2)) m = (10, zs.map (·.2)) := by rw [rputR, if_neg h01, if_pos h2]
    rw [hr]
    repeat (first | (apply JL.y; (first | (apply Y_assign; rfl) | (apply Y_loadW 2; rfl; rfl; exact inferInstance; rfl)); rfl) | refine J.seq ?_ | refine J.region ?_ | refine JL.nil ?_ | (apply JL.store; (apply St_W 0; rfl; rfl; rfl; exact inferInstance; rfl; rfl; (first | (focus (simp [Value.oneCell']; done)) | (simp [Value.oneCell']; assumption) | (simp [Value.oneCell']; exact ⟨by assumption, by assumption⟩)); (first | (focus (simp only [List.set_cons_zero]; done)) | (simp only [List.set_cons_zero]; rfl)))))
    exact J.ret2 Try.func29 Try.results29 (RV.W 0 rfl rfl rfl) (RV.tm rfl) fun w' hw' => ⟨_, rfl, hw'.ext, v, zs, rfl, (h.ext0 hw'.ext).mono fun k _ hk => .inl hk, rfl⟩
  have hr : rputR ln pl (zs.map (·.2)) m = (0, St.ins Msg.lane m (zs.map (·.2))) := by rw [rputR, if_neg h01, if_neg h2]
  rw [hr]
  obtain ⟨A, c, rfl, hc, hmx⟩ := h.slice
  repeat (first | refine J.skip ?_)
  refine J.seq ?_
  repeat (first | (apply JL.y; (first | (apply Y_assign; rfl) | (apply Y_fieldAddr; rfl; rfl) | (apply Y_load1 2; rfl; rfl; rfl; exact inferInstance) | (apply Y_len; rfl)); rfl) | refine J.region ?_ | refine JL.nil ?_)
  refine J.seq ?_
  have hstr := h.row
  refine J.joinP (α := Nat) (fun q w' => Ext No w w' ∧ BlkIn w' ⟨b4, [.int .i64 0, .int .i64 0, .slice none 0 0], 28⟩ ∧ BlkIn w' ⟨b3, msgC ws m, 33⟩ ∧ BlkIn w' ⟨b2, [.int .i64 ln, .int .i64 pl, .slice A zs.length c], 28⟩ ∧ b2 ≠ b3 ∧ b2 ≠ b4 ∧ b3 ≠ b4 ∧ w.heap.size ≤ b2 ∧ w.heap.size ≤ b3 ∧ w.heap.size ≤ b4 ∧ q ≤ zs.length ∧ (∀ j y, q ≤ j → (zs.map (·.2))[j]? = some y → m.lane < y.lane) ∧ (∀ y, 0 < q → (zs.map (·.2))[q - 1]? = some y → y.lane ≤ m.lane))
    (fun q => [(2, .pointer (some ⟨b2, 0, none⟩)), (3, .pointer (some ⟨b3, 0, none⟩)), (4, .pointer (some ⟨b4, 0, none⟩)), (6, .int .i64 q)]) (fun k' hj => ?_) (fun q => ?_)
  · repeat (first | refine J.block ?_)
    refine J.intro fun wl hwl => ?_
    have hb4 := hwl.has _ (.head _)
    have hb3 := hwl.has _ (.tail _ (.head _))
    have hb2 := hwl.has _ (.tail _ (.tail _ (.head _)))
    have b4l : w.heap.size ≤ b4 := (hwl.mine _ (.head _)).resolve_left id
    have b3l : w.heap.size ≤ b3 := (hwl.mine _ (.tail _ (.head _))).resolve_left id
    have b2l : w.heap.size ≤ b2 := (hwl.mine _ (.tail _ (.tail _ (.head _)))).resolve_left id
    have b34 : b3 ≠ b4 := hwl.apart.1 _ (.head _)
    have b24 : b2 ≠ b4 := hwl.apart.1 _ (.tail _ (.head _))
    have b23 : b2 ≠ b3 := hwl.apart.2.1 _ (.head _)
    refine G.loop (Inv := fun mm e wl => ∃ (q : Nat), q ≤ zs.length ∧ q = mm ∧ Ext No w wl ∧ BlkIn wl ⟨b4, [.int .i64 0, .int .i64 0, .slice none 0 0], 28⟩ ∧ BlkIn wl ⟨b3, msgC ws m, 33⟩ ∧ BlkIn wl ⟨b2, [.int .i64 ln, .int .i64 pl, .slice A zs.length c], 28⟩ ∧ (∀ j y, q ≤ j → (zs.map (·.2))[j]? = some y → m.lane < y.lane) ∧ e = [(2, .pointer (some ⟨b2, 0, none⟩)), (3, .pointer (some ⟨b3, 0, none⟩)), (4, .pointer (some ⟨b4, 0, none⟩)), (6, .int .i64 q)])
      _ _ ⟨zs.length, Nat.le_refl _, rfl, hwl.ext, hb4, hb3, hb2, (fun j y hj hy => by rw [List.getElem?_eq_none (by simpa using hj)] at hy; cases hy), rfl⟩ ⟨rfl, rfl, rfl, rfl, trivial⟩ ?_
    rintro mm e w1 ⟨q, hq, rfl, hE, hB4, hB3, hB2, hgt, rfl⟩ ih
    have hst : ∀ {H' : List Blk} {w' : World}, Cls w1 (fun k => k = b4 ∨ k = b3 ∨ k = b2) H' w' → (⟨b4, [.int .i64 0, .int .i64 0, .slice none 0 0], 28⟩ : Blk) ∈ H' → (⟨b3, msgC ws m, 33⟩ : Blk) ∈ H' → (⟨b2, [.int .i64 ln, .int .i64 pl, .slice A zs.length c], 28⟩ : Blk) ∈ H' → Ext No w1 w' := fun h h1 h2 h3 => h.still fun k hk => by
      rcases hk with rfl | rfl | rfl
      · exact ⟨_, h1, rfl, hB4⟩
      · exact ⟨_, h2, rfl, hB3⟩
      · exact ⟨_, h3, rfl, hB2⟩
    refine J.at (C := Cls w1 (fun k => k = b4 ∨ k = b3 ∨ k = b2) [_, _, _]) ?_ (Cls.start3 hB4 hB3 hB2 b34 b24 b23)
    unfold msgC
    unfold msgC at hst
    rcases Nat.eq_zero_or_pos q with h0 | h0
    · subst h0
      repeat (first | refine J.seq ?_)
      refine J.draw (S := Cls _ _ _) [] #[false, false, false, false, false, false, false, false, false, false, false, false, false, false] rfl rfl (fun w hw => hw.drew) (fun w hS => ?_)
      (apply DR.pure 0 #[true, false, false, false, false, false, false, false, false, false, false, false, false, false]; rfl; kernel_rfl; (apply Y_move; rfl); rfl)
      (apply DR.take 1 #[true, true, false, false, false, false, false, false, false, false, false, false, false, false]; rfl; kernel_rfl; exact Y_gtr_f rfl rfl (by omega); rfl; exact hS)
      (apply DR.pure 2 #[true, true, true, false, false, false, false, false, false, false, false, false, false, false]; rfl; kernel_rfl; (apply Y_move; rfl); rfl)
      (apply DR.not 3 #[true, true, true, true, false, false, false, false, false, false, false, false, false, false]; rfl; rfl; rfl; rfl; rfl; kernel_rfl; rfl)
      (apply DR.not 4 #[true, true, true, true, true, false, false, false, false, false, false, false, false, false]; rfl; rfl; rfl; rfl; rfl; kernel_rfl; rfl)
      (apply DR.not 5 #[true, true, true, true, true, true, false, false, false, false, false, false, false, false]; rfl; rfl; rfl; rfl; rfl; kernel_rfl; rfl)
      (apply DR.not 6 #[true, true, true, true, true, true, true, false, false, false, false, false, false, false]; rfl; rfl; rfl; rfl; rfl; kernel_rfl; rfl)
      (apply DR.not 7 #[true, true, true, true, true, true, true, true, false, false, false, false, false, false]; rfl; rfl; rfl; rfl; rfl; kernel_rfl; rfl)
      (apply DR.not 8 #[true, true, true, true, true, true, true, true, true, false, false, false, false, false]; rfl; rfl; rfl; rfl; rfl; kernel_rfl; rfl)
      (apply DR.not 9 #[true, true, true, true, true, true, true, true, true, true, false, false, false, false]; rfl; rfl; rfl; rfl; rfl; kernel_rfl; rfl)
      (apply DR.not 10 #[true, true, true, true, true, true, true, true, true, true, true, false, false, false]; rfl; rfl; rfl; rfl; rfl; kernel_rfl; rfl)
      (apply DR.not 11 #[true, true, true, true, true, true, true, true, true, true, true, true, false, false]; rfl; rfl; rfl; rfl; rfl; kernel_rfl; rfl)
      (apply DR.not 12 #[true, true, true, true, true, true, true, true, true, true, true, true, true, false]; rfl; rfl; rfl; rfl; rfl; kernel_rfl; rfl)
      (apply DR.pure 13 #[true, true, true, true, true, true, true, true, true, true, true, true, true, true]; rfl; kernel_rfl; (first | (apply Y_pick_t; rfl; rfl) | (apply Y_pick_f; rfl; rfl)); rfl)
      refine DR.done (by kernel_rfl) ?_
      refine J.at (C := Cls _ _ _) ?_ hS
      skip
      apply J.cond_f rfl
      repeat (first | (apply J.exit; rfl))
      refine J.imp (J.weak (hj 0) ⟨rfl, rfl, rfl, rfl, trivial⟩) fun w' hw' => ⟨hE.trans (hst hw' (by simp) (by simp) (by simp)), hB4.ext0 (hst hw' (by simp) (by simp) (by simp)), hB3.ext0 (hst hw' (by simp) (by simp) (by simp)), hB2.ext0 (hst hw' (by simp) (by simp) (by simp)), b23, b24, b34, b2l, b3l, b4l, hq, hgt, fun y h => absurd h (Nat.lt_irrefl _)⟩
    · obtain ⟨z, hx⟩ : ∃ z, zs[q - 1]? = some z := ⟨_, List.getElem?_eq_getElem (by omega)⟩
      obtain ⟨ad, _, e1⟩ := h.base (by omega) (by omega)
      cases e1
      obtain ⟨wz, hwz, _, _, _⟩ := MsgC.open_ (h.el z (List.mem_of_getElem? hx))
      have l2 := (h.ldsF (P := Try.prog) (t := 3) hx (j := 1) (v := .int .i64 z.2.lane) (by rw [hwz]; rfl)).ext0 hE
      have hq1 : ((q : Int) - 1).toNat = q - 1 := by omega
      rw [← hq1] at l2
      unfold maxLen at hmx
      repeat (first | refine J.seq ?_)
      refine J.draw (S := Cls _ _ _) [] #[false, false, false, false, false, false, false, false, false, false, false, false, false, false] rfl rfl (fun w hw => hw.drew) (fun w hS => ?_)
      (apply DR.pure 0 #[true, false, false, false, false, false, false, false, false, false, false, false, false, false]; rfl; kernel_rfl; (apply Y_move; rfl); rfl)
      (apply DR.take 1 #[true, true, false, false, false, false, false, false, false, false, false, false, false, false]; rfl; kernel_rfl; exact Y_gtr_t rfl rfl (by omega); rfl; exact hS)
      (apply DR.pure 2 #[true, true, true, false, false, false, false, false, false, false, false, false, false, false]; rfl; kernel_rfl; (apply Y_move; rfl); rfl)
      (apply DR.pureG 3 #[true, true, true, true, false, false, false, false, false, false, false, false, false, false]; rfl; rfl; rfl; rfl; kernel_rfl; (apply Y_fieldAddr; rfl; rfl); rfl)
      (apply DR.takeG 4 #[true, true, true, true, true, false, false, false, false, false, false, false, false, false]; rfl; rfl; rfl; rfl; kernel_rfl; (first | (apply Y_load1 0; rfl; rfl; rfl; exact inferInstance) | (apply Y_load1 1; rfl; rfl; rfl; exact inferInstance) | (apply Y_load1 2; rfl; rfl; rfl; exact inferInstance) | (apply Y_load1 3; rfl; rfl; rfl; exact inferInstance) | (apply Y_loadW 0; rfl; rfl; exact inferInstance; rfl) | (apply Y_loadW 1; rfl; rfl; exact inferInstance; rfl) | (apply Y_loadW 2; rfl; rfl; exact inferInstance; rfl) | (apply Y_loadW 3; rfl; rfl; exact inferInstance; rfl)); rfl; exact hS)
      (apply DR.pureG 5 #[true, true, true, true, true, true, false, false, false, false, false, false, false, false]; rfl; rfl; rfl; rfl; kernel_rfl; (apply Y_move; rfl); rfl)
      (apply DR.pureG 6 #[true, true, true, true, true, true, true, false, false, false, false, false, false, false]; rfl; rfl; rfl; rfl; kernel_rfl; (apply Y_sub; rfl; rfl; omega); rfl)
      (apply DR.pureG 7 #[true, true, true, true, true, true, true, true, false, false, false, false, false, false]; rfl; rfl; rfl; rfl; kernel_rfl; (apply Y_indexAddr; rfl; rfl; omega); rfl)
      (apply DR.takeG 8 #[true, true, true, true, true, true, true, true, true, false, false, false, false, false]; rfl; rfl; rfl; rfl; kernel_rfl; exact Y_fieldAddrG rfl; rfl; exact hS)
      (apply DR.takeG 9 #[true, true, true, true, true, true, true, true, true, true, false, false, false, false]; rfl; rfl; rfl; rfl; kernel_rfl; exact Y_loadP rfl fun w hw => l2.at_ (hst hw (by simp) (by simp) (by simp)) fun _ _ _ h => h; rfl; exact hS)
      (apply DR.pureG 10 #[true, true, true, true, true, true, true, true, true, true, true, false, false, false]; rfl; rfl; rfl; rfl; kernel_rfl; (apply Y_fieldAddr; rfl; rfl); rfl)
      (apply DR.takeG 11 #[true, true, true, true, true, true, true, true, true, true, true, true, false, false]; rfl; rfl; rfl; rfl; kernel_rfl; (first | (apply Y_load1 0; rfl; rfl; rfl; exact inferInstance) | (apply Y_load1 1; rfl; rfl; rfl; exact inferInstance) | (apply Y_load1 2; rfl; rfl; rfl; exact inferInstance) | (apply Y_load1 3; rfl; rfl; rfl; exact inferInstance) | (apply Y_loadW 0; rfl; rfl; exact inferInstance; rfl) | (apply Y_loadW 1; rfl; rfl; exact inferInstance; rfl) | (apply Y_loadW 2; rfl; rfl; exact inferInstance; rfl) | (apply Y_loadW 3; rfl; rfl; exact inferInstance; rfl)); rfl; exact hS)
      (apply DR.pureG 12 #[true, true, true, true, true, true, true, true, true, true, true, true, true, false]; rfl; rfl; rfl; rfl; kernel_rfl; (apply Y_gtr; rfl; rfl); rfl)
      (apply DR.take 13 #[true, true, true, true, true, true, true, true, true, true, true, true, true, true]; rfl; kernel_rfl; exact Y_pick_t rfl rfl; rfl; exact hS)
      refine DR.done (by kernel_rfl) ?_
      refine J.at (C := Cls _ _ _) ?_ hS
      refine J.cond_d rfl (fun hlt => ?_) (fun hlt => ?_)
      · repeat (first | (apply JL.y; (first | (apply Y_move; rfl) | (apply Y_assign; rfl) | (apply Y_sub; rfl; rfl; omega)); rfl) | refine J.region ?_ | refine JL.nil ?_ | refine J.skip ?_ | refine J.block ?_ | refine J.inBlock ?_)
        refine J.intro fun w4 hw4 => ?_
        have hE4 := hst hw4 (by simp) (by simp) (by simp)
        refine ih (q - 1) (by omega) _ _ w4 ?_ ⟨q - 1, by omega, rfl, hE.trans hE4, hB4.ext0 hE4, hB3.ext0 hE4, hB2.ext0 hE4, fun j y hj hy => ?_, rfl⟩
        · exact ⟨rfl, rfl, rfl, by simp [Env.get]; omega, trivial⟩
        · rcases Nat.lt_or_ge j q with h1 | h1
          · have : j = q - 1 := by omega
            subst this
            rw [map_snoc hx] at hy
            cases hy
            exact hlt
          · exact hgt j y h1 hy
      · repeat (first | (apply J.exit; rfl))
        refine J.imp (J.weak (hj q) ⟨rfl, rfl, rfl, rfl, trivial⟩) fun w' hw' => ⟨hE.trans (hst hw' (by simp) (by simp) (by simp)), hB4.ext0 (hst hw' (by simp) (by simp) (by simp)), hB3.ext0 (hst hw' (by simp) (by simp) (by simp)), hB2.ext0 (hst hw' (by simp) (by simp) (by simp)), b23, b24, b34, b2l, b3l, b4l, hq, hgt, fun y _ hy => ?_⟩
        rw [map_snoc hx] at hy
        cases hy
        omega
  simp only
  refine J.intro fun w1 ⟨hE, hB4, hB3, hB2, b23, b24, b34, b2l, b3l, b4l, hq, hgt, hle⟩ => J.at (C := Cls w1 (fun k => k = b4 ∨ k = b3 ∨ k = b2) [_, _, _]) ?_ (Cls.start3 hB4 hB3 hB2 b34 b24 b23)
  have hins := St.ins_at (x := m) hsrt (i := q) (by simpa using hq) hgt hle
  have hst : ∀ {H' : List Blk} {w' : World}, Cls w1 (fun k => k = b4 ∨ k = b3 ∨ k = b2) H' w' → (⟨b4, [.int .i64 0, .int .i64 0, .slice none 0 0], 28⟩ : Blk) ∈ H' → (⟨b3, msgC ws m, 33⟩ : Blk) ∈ H' → (⟨b2, [.int .i64 ln, .int .i64 pl, .slice A zs.length c], 28⟩ : Blk) ∈ H' → Ext No w1 w' := fun h h1 h2 h3 => h.still fun k hk => by
    rcases hk with rfl | rfl | rfl
    · exact ⟨_, h1, rfl, hB4⟩
    · exact ⟨_, h2, rfl, hB3⟩
    · exact ⟨_, h3, rfl, hB2⟩
  repeat (first | (apply JL.y; (first | (apply Y_move; rfl) | (apply Y_assign; rfl) | (apply Y_fieldAddr; rfl; rfl) | (apply Y_load1 2; rfl; rfl; rfl; exact inferInstance)); rfl) | refine J.seq ?_ | refine J.region ?_ | refine JL.nil ?_)
  apply JL.y (Y_slice_h rfl rfl (by omega)) rfl
  rw [Int.toNat_natCast]
  refine JL.intro fun w2 hw2 => ?_
  have hE2 : Ext No w w2 := hE.trans (hst hw2 (by simp) (by simp) (by simp))
  have h2 := h.ext0 hE2
  have hB4 := hw2.has _ (.head _)
  have hB3 := hw2.has _ (.tail _ (.head _))
  have hB2 := hw2.has _ (.tail _ (.tail _ (.head _)))
  have u4 := hB4.lt
  have u3 := hB3.lt
  have u2 := hB2.lt
  simp only at u4 u3 u2
  refine GL.appendR rfl rfl (by decide) (Row.nil w2 _ _) (h2.take hq).row.now (MsgC.ones (ok := ok) fun z hz => h2.el z (List.mem_of_mem_take hz)) (by simp; omega) (by decide) rfl fun v3 w3 hrow3 hapd3 => ?_
  have hE23 : Ext No w2 w3 := hapd3.ext.mono fun k _ hk => by simp [Value.ownBlock] at hk
  have hL3 : Lk ok w w3 v3 ([] ++ zs.take q) := (Lk.nil ok w w2).apps hrow3 hapd3 (fun y hy => (h.el y (List.mem_of_mem_take hy)).old hE2 fun _ _ _ h => h) hE2.size
  have hE3 := hE2.trans hE23
  have hv3 : ∀ b, b < w2.heap.size → v3.ownBlock ≠ some b := fun b hb => apd_ne hapd3 hb (by simp [Value.ownBlock])
  refine GL.of_JL (C := Cls w3 (fun k => k = b4 ∨ k = b3 ∨ k = b2) [_, _, _]) (Cls.start3 (hB4.ext0 hE23) (hB3.ext0 hE23) (hB2.ext0 hE23) b34 b24 b23) ?_
  unfold msgC
  repeat (first | (apply JL.y; (first | (apply Y_move; rfl) | (apply Y_assign; rfl) | (apply Y_loadW 1; rfl; rfl; exact inferInstance; rfl)); rfl) | refine J.seq ?_ | refine J.region ?_ | refine JL.nil ?_ | (apply JL.bslice1; rfl; rfl; rfl; rfl; rfl; rfl; intro _))
  refine JL.intro fun w4 hw4 => ?_
  have hE34 : Ext No w3 w4 := hw4.still fun k hk => by
    rcases hk with rfl | rfl | rfl
    · exact ⟨_, .tail _ (.head _), rfl, hB4.ext0 hE23⟩
    · exact ⟨_, .tail _ (.tail _ (.head _)), rfl, hB3.ext0 hE23⟩
    · exact ⟨_, .tail _ (.tail _ (.tail _ (.head _))), rfl, hB2.ext0 hE23⟩
  have hL4 := hL3.ext0 hE34
  have hE4 := hE3.trans hE34
  have hB4 := hw4.has _ (.tail _ (.head _))
  have hB3 := hw4.has _ (.tail _ (.tail _ (.head _)))
  have hB2 := hw4.has _ (.tail _ (.tail _ (.tail _ (.head _))))
  have s34 := hE34.size
  have s23 := hE23.size
  refine GL.append1 rfl rfl hL4.own.row (hw4.has _ (.head _)) rfl rfl (msgC_one ho) (by simp; omega) rfl rfl fun v5 w5 hrow5 hapd5 => ?_
  have hL5 := hL4.app hrow5 hapd5 ((MsgC.mk hm hl8).old hE4 fun _ _ _ h => h) hE4.size
  have hv5 : ∀ b, b < w2.heap.size → v5.ownBlock ≠ some b := fun b hb => apd_ne hapd5 (by omega) (hv3 b hb)
  have hE5 : Ext No w w5 := hE4.then hapd5.ext fun k hk hv => by have := hL4.new k hv; omega
  have s45 := hapd5.ext.size
  have hB4 := hB4.keep hapd5.ext (hv3 _ u4)
  have hB3 := hB3.keep hapd5.ext (hv3 _ u3)
  have hB2 := hB2.keep hapd5.ext (hv3 _ u2)
  refine GL.of_JL (C := Cls w5 (fun k => k = b4 ∨ k = b3 ∨ k = b2) [_, _, _]) (Cls.start3 hB4 hB3 hB2 b34 b24 b23) ?_
  repeat (first | (apply JL.y; (first | (apply Y_move; rfl) | (apply Y_assign; rfl) | (apply Y_fieldAddr; rfl; rfl) | (apply Y_load1 2; rfl; rfl; rfl; exact inferInstance)); rfl) | refine J.seq ?_ | refine J.region ?_ | refine JL.nil ?_)
  apply JL.y (Y_slice_l rfl rfl (by omega)) rfl
  rw [Int.toNat_natCast]
  refine JL.intro fun w6 hw6 => ?_
  have hE56 : Ext No w5 w6 := hw6.still fun k hk => by
    rcases hk with rfl | rfl | rfl
    · exact ⟨_, .head _, rfl, hB4⟩
    · exact ⟨_, .tail _ (.head _), rfl, hB3⟩
    · exact ⟨_, .tail _ (.tail _ (.head _)), rfl, hB2⟩
  have hL6 := hL5.ext0 hE56
  have hE6 := hE5.trans hE56
  have h6 := h.ext0 hE6
  have s56 := hE56.size
  have hB4 := hw6.has _ (.head _)
  have hB3 := hw6.has _ (.tail _ (.head _))
  have hB2 := hw6.has _ (.tail _ (.tail _ (.head _)))
  refine GL.appendR rfl rfl (by decide) hL6.own.row (h6.drop hq).row.now (MsgC.ones (ok := ok) fun z hz => h6.el z (List.mem_of_mem_drop hz)) (by simp; omega) (by decide) rfl fun v7 w7 hrow7 hapd7 => ?_
  have hL7 := hL6.apps hrow7 hapd7 (fun y hy => (h.el y (List.mem_of_mem_drop hy)).old hE6 fun _ _ _ h => h) hE6.size
  have hv7 : ∀ b, b < w2.heap.size → v7.ownBlock ≠ some b := fun b hb => apd_ne hapd7 (by omega) (hv5 b hb)
  have hE7 : Ext No w w7 := hE6.then hapd7.ext fun k hk hv => by have := hL6.new k hv; omega
  have hB4 := hB4.keep hapd7.ext (hv5 _ u4)
  have hB3 := hB3.keep hapd7.ext (hv5 _ u3)
  have hB2 := hB2.keep hapd7.ext (hv5 _ u2)
  have hv7o := hL7.own.row.one
  refine GL.of_JL (C := Cls w7 (fun k => k = b4 ∨ k = b3 ∨ k = b2) [_, _, _]) (Cls.start3 hB4 hB3 hB2 b34 b24 b23) ?_
  repeat (first | (apply JL.y; (first | (apply Y_assign; rfl) | (apply Y_fieldAddr; rfl; rfl) | (apply Y_loadW 2; rfl; rfl; exact inferInstance; rfl)); rfl) | refine J.seq ?_ | refine J.region ?_ | refine JL.nil ?_ | (apply JL.store; (first | (apply St_1 2; rfl; rfl; exact inferInstance; (first | rfl | assumption); rfl; rfl; (first | (focus (simp only [List.set_cons_zero, List.set_cons_succ]; done)) | (simp only [List.set_cons_zero, List.set_cons_succ]; rfl))) | (apply St_W 0; rfl; rfl; rfl; exact inferInstance; rfl; rfl; (first | (focus (simp [Value.oneCell']; done)) | (simp [Value.oneCell']; assumption) | (simp [Value.oneCell']; exact ⟨by assumption, by assumption⟩)); (first | (focus (simp only [List.set_cons_zero]; done)) | (simp only [List.set_cons_zero]; rfl))))))
  refine J.ret2 Try.func29 Try.results29 (RV.W 0 rfl rfl rfl) (RV.tm rfl) fun w' hw' => ?_
  have hx := hw'.ext
  have hD : ∀ k, (k = b4 ∨ k = b3 ∨ k = b2) → w.heap.size ≤ k ∧ k < w2.heap.size := fun k hk => by omega
  refine ⟨_, rfl, hE7.then hx fun k hk h => by have := hD k h; omega, v7, _, rfl, ((hL7.ext hx fun k _ h => ⟨(hD k h).1, hv7 k (hD k h).2⟩).rd).mono fun k _ hk => hk.imp (·.1) id, ?_⟩
  simp only [List.map_append, List.map_cons, List.map_take, List.map_drop, hins, List.nil_append, List.append_assoc, List.singleton_append]
end Go.Proofs.Ytmkpbbdocndfbaa
/- The engine: regions that draw their order, with a new variable that may be made at any time beside a chain of calls. -/
namespace Go.Proofs.Ytmkpbbdocndfbaa
open Go.RowKit Go.Proofs.YtmkpbbdocndfbaaW.PrintLast

section
variable {P : Program} {f n : Nat} {R : Ending → World → Prop} {k : List Item} {e e' : Env} {w w' w0 : World} {S : World → Prop} {ops : Array Oper} {ty t : TypeId} {pos : String} {aft : Array Edge} {d dj fuel i : Nat} {v : Value} {ds : List Nat} {l l' l1 l1' : Array Bool} {cs : List Value} {op : Op} {U : Nat → Prop}
theorem DR.weakF (h : DR P f n R S ds ops fuel l k e' w) (hf : ∀ a, Fits n e a → Fits n e' a) : DR P f n R S ds ops fuel l k e w := by
  unfold DR at h ⊢
  exact fun a ha => h a (hf a ha)
theorem Fits.drop {a : Act} {u : Value} (h : Fits n ((d, u) :: e) a) (hn : e.get d = none) : Fits n e a := ⟨h.df, h.sz, fun t v ht => h.get t v (by
  rw [Env.get_cons]
  by_cases hd : d = t
  · subst hd; rw [hn] at ht; cases ht
  · rw [if_neg hd]; exact ht)⟩
theorem Fits.swap {a : Act} {u : Value} (h : Fits n ((dj, v) :: (d, u) :: e) a) (hn : Nat.beq dj d = false) : Fits n ((d, u) :: (dj, v) :: e) a := ⟨h.df, h.sz, fun t x ht => h.get t x (by
  have hne := Nat.ne_of_beq_eq_false hn
  rw [Env.get_cons, Env.get_cons] at ht ⊢
  by_cases h1 : dj = t
  · subst h1
    rw [if_neg (fun h => hne h.symm), if_pos rfl] at ht
    rw [if_pos rfl]; exact ht
  · rw [if_neg h1]
    by_cases h2 : d = t
    · rw [if_pos h2] at ht ⊢; exact ht
    · rw [if_neg h2] at ht ⊢
      rw [if_neg h1] at ht; exact ht)⟩
/-- Operation i makes the variable d; it has not come up yet (l), or it has (l'); U: what was made meanwhile and is still spoken of. -/
def DRA (P : Program) (f n : Nat) (R : Ending → World → Prop) (S : World → Prop) (ds : List Nat) (ops : Array Oper) (w0 : World) (d : Nat) (cs : List Value) (t : TypeId) (U : Nat → Prop) (fuel : Nat) (l l' : Array Bool) (k : List Item) (e : Env) (w : World) : Prop :=
  DR P f n R S ds ops (fuel + 1) l k e w ∧ ∀ b, w0.heap.size ≤ b → ¬ U b → BlkIn w ⟨b, cs, t⟩ → DR P f n R S ds ops fuel l' k ((d, .pointer (some ⟨b, 0, none⟩)) :: e) w
theorem DRA.go (h : DRA P f n R S ds ops w0 d cs t U fuel l l' k e w) : DR P f n R S ds ops (fuel + 1) l k e w := h.1
/-- What is taken first either way. -/
theorem DRA.take (j : Nat) (l1 l1' : Array Bool) (hj : ops[j]? = some ⟨some dj, op, ty, pos, aft, none⟩) (hc : takeB .any ops ds l l1 j = true) (hc' : takeB .any ops ds l' l1' j = true) (hy : Yl P S n e ⟨some dj, op, ty, pos, aft, none⟩ v) (hd : Nat.blt dj n = true) (hS : S w) (hn : e.get d = none) (hne : Nat.beq dj d = false)
    (h : DRA P f n R S ds ops w0 d cs t U fuel l1 l1' k ((dj, v) :: e) w) : DRA P f n R S ds ops w0 d cs t U (fuel + 1) l l' k e w :=
  ⟨DR.take j l1 hj hc hy hd hS h.1, fun b hb hU hB => DR.take j l1' hj hc' (by unfold Yl at hy ⊢; exact fun a w ha hw => hy a w (ha.drop hn) hw) hd hS ((h.2 b hb hU hB).weakF fun a ha => ha.swap hne)⟩
theorem DRA.pure (j : Nat) (l1 l1' : Array Bool) (hj : ops[j]? = some ⟨some dj, op, ty, pos, aft, none⟩) (hc : anyB .any ops l l1 j = true) (hc' : anyB .any ops l' l1' j = true) (hy : Yl P (fun _ => True) n e ⟨some dj, op, ty, pos, aft, none⟩ v) (hd : Nat.blt dj n = true) (hn : e.get d = none) (hne : Nat.beq dj d = false)
    (h : DRA P f n R S ds ops w0 d cs t U fuel l1 l1' k ((dj, v) :: e) w) : DRA P f n R S ds ops w0 d cs t U (fuel + 1) l l' k e w :=
  ⟨DR.pure j l1 hj hc hy hd h.1, fun b hb hU hB => DR.pure j l1' hj hc' (by unfold Yl at hy ⊢; exact fun a w ha hw => hy a w (ha.drop hn) hw) hd ((h.2 b hb hU hB).weakF fun a ha => ha.swap hne)⟩
/-- Two may come up: the variable, or a call. -/
def twoB (ops : Array Oper) (l li lj : Array Bool) (i j : Nat) : Bool := (Region.ready .any ops l == [i, j] || Region.ready .any ops l == [j, i]) && l.setIfInBounds i true == li && l.setIfInBounds j true == lj
theorem DRA.call {g : Nat} {xs : List Operand} {vs : List Value} {ats : Array TypeId} [hcl : CI P g] {tyi : TypeId} {posi : String} {afti : Array Edge} {ag : Bool} {s : Nat} {zv : Value} (i j : Nat) (l1 l1' : Array Bool) (Φ : Value → (Nat → Prop) → World → Prop) (D : Nat → Prop)
    (hi : ops[i]? = some ⟨some d, .alloc t, tyi, posi, afti, none⟩) (hj : ops[j]? = some ⟨some dj, .call { callee := .value (.func g), args := xs.toArray, argTypes := ats }, ty, pos, aft, none⟩)
    (hc : twoB ops l l' l1 i j = true) (hc' : readyB .any ops l' l1' j = true) (hdi : (ds.contains i) = false) (hdj : (ds.contains j) = false) (hx : opvs e xs = some vs) (hd : Nat.blt d n = true) (hd' : Nat.blt dj n = true) (hn : e.get d = none) (hne : Nat.beq dj d = false)
    (ht : TI P t ag s zv) (hz : zv.cells = cs.toArray) (hS : S w) (hS1 : ∀ w w', S w → Ext No w w' → S w') (hsz : ∀ w, S w → w0.heap.size ≤ w.heap.size) (hD : ∀ k, D k → k < w0.heap.size) (hU : ∀ k, U k → k < w.heap.size)
    (h : ∀ w1, Ext No w w1 → S w1 → Calls P g vs.toArray w1 fun e w' => ∃ v N, e = .returned v ∧ Φ v N w' ∧ (∀ k, N k → w1.heap.size ≤ k ∧ k < w'.heap.size) ∧ Ext D w1 w' ∧ S w')
    (hk : ∀ v N w', Φ v N w' → S w' → (∀ k, N k → k < w'.heap.size) → (∀ k, U k ∨ N k → k < w'.heap.size) → DRA P f n R S ds ops w0 d cs t (fun k => U k ∨ N k) fuel l1 l1' k ((dj, v) :: e) w') : DRA P f n R S ds ops w0 d cs t U (fuel + 1) l l' k e w := by
  have hB : ∀ w1, Ext No w w1 → S w1 → ∀ b, w0.heap.size ≤ b → ¬ U b → BlkIn w1 ⟨b, cs, t⟩ → DR P f n R S ds ops (fuel + 1) l' k ((d, .pointer (some ⟨b, 0, none⟩)) :: e) w1 := fun w1 he hS1' b hb hUb hBl =>
    DR.call (g := g) j l1' (fun v w' => ∃ N, Φ v N w' ∧ (∀ k, N k → w1.heap.size ≤ k ∧ k < w'.heap.size) ∧ Ext D w1 w' ∧ S w') hj hc' hdj (by
      have key : ∀ (xs : List Operand) (vs : List Value), opvs e xs = some vs → opvs ((d, Value.pointer (some ⟨b, 0, none⟩)) :: e) xs = some vs := by
        intro xs
        induction xs with
        | nil => intro vs h; simpa [opvs] using h
        | cons x r ih =>
          intro vs h
          simp only [opvs] at h ⊢
          cases h1 : opv e x with
          | none => simp [h1] at h
          | some v1 =>
            cases h2 : opvs e r with
            | none => simp [h1, h2] at h
            | some v2 =>
              have h3 : opv ((d, Value.pointer (some ⟨b, 0, none⟩)) :: e) x = some v1 := by
                cases x with
                | tmp t' =>
                  simp only [opv] at h1 ⊢
                  rw [Env.get_cons]
                  by_cases hdt : d = t'
                  · subst hdt; rw [hn] at h1; cases h1
                  · rw [if_neg hdt]; exact h1
                | const c => exact h1
                | global g => exact h1
                | func g => exact h1
              rw [h3, ih v2 h2]
              simp only [h1, h2] at h
              exact h
      exact key xs vs hx) hd' ((h w1 he hS1').mono fun en w' ⟨v, N, h1, h2⟩ => ⟨v, h1, N, h2⟩) (fun v w' ⟨N, hv⟩ => hv.2.2.2) fun v w' ⟨N, hv, hN, hE, _⟩ hS' => ((hk v N w' hv hS' (fun k hk => (hN k hk).2) (fun k hk => hk.elim (fun h1 => Nat.lt_of_lt_of_le (hU k h1) (Nat.le_trans he.size hE.size)) fun h1 => (hN k h1).2)).2 b hb (fun h' => h'.elim hUb fun h1 => by have := (hN b h1).1; have := hBl.lt; simp only at this; omega) (hBl.keep hE fun hd'' => by have := hD _ hd''; simp only at this; omega)).weakF fun a ha => ha.swap hne
  refine ⟨?_, fun b hb hUb hBl => hB w (Ext.refl _ _) hS b hb hUb hBl⟩
  have hal : S (w.alloc (.cells cs.toArray t)) := hS1 _ _ hS (.alloc _ _)
  have hAi := hB _ (.alloc w _) hal w.heap.size (hsz w hS) (fun h => by have := hU _ h; omega) (heap_alloc_new w _)
  unfold DR at hAi ⊢
  intro a ha
  have run_i : ∀ K : Act → World → Prop, Shut (∀ a' w', S w' → (S w' → wpAnyLast P .any ops (GQ P f R k) S ds (fuel + 1) l' a' w') → K a' w') → if Region.wanted ⟨some d, .alloc t, tyi, posi, afti, none⟩ (yielded ops a.tmps) = true then Oper.wp P ⟨some d, .alloc t, tyi, posi, afti, none⟩ a w K (GQ P f R k) else K (a.put (some d) undef) w := fun K hK => want_if rfl (by
    unfold Oper.wp
    rw [show (execOp a.eval ⟨some d, .alloc t, tyi, posi, afti, none⟩).run P w = .ok (.value (.pointer (some ⟨w.heap.size, 0, none⟩))) (w.alloc (.cells cs.toArray t)) by simp [execOp, Instr.alloc, newVar, newRow, ht.zero, hz]]
    exact hK.out _ _ hal fun _ => hAi _ (ha.put (by simpa using hd) _))
  have run_j : ∀ K : Act → World → Prop, Shut (∀ a' w', S w' → (S w' → wpAnyLast P .any ops (GQ P f R k) S ds (fuel + 1) l1 a' w') → K a' w') → if Region.wanted ⟨some dj, .call { callee := .value (.func g), args := xs.toArray, argTypes := ats }, ty, pos, aft, none⟩ (yielded ops a.tmps) = true then Oper.wp P ⟨some dj, .call { callee := .value (.func g), args := xs.toArray, argTypes := ats }, ty, pos, aft, none⟩ a w K (GQ P f R k) else K (a.put (some dj) undef) w := fun K hK => want_if rfl (by
    have hr := run_call (P := P) (ty := ty) (pos := pos) (aft := aft) (dst := some dj) (gd := none) (ats := ats) (x := .func g) (cap := #[]) ha rfl hx hcl.run w
    unfold Oper.wp
    rw [hr, Oper.upon_enter]
    have h' : Calls P g (vs.toArray ++ #[]) w fun e w' => ∃ v N, e = .returned v ∧ Φ v N w' ∧ (∀ k, N k → w.heap.size ≤ k ∧ k < w'.heap.size) ∧ Ext D w w' ∧ S w' := by simpa using h w (Ext.refl _ _) hS
    refine h'.mono fun en w' he => ?_
    obtain ⟨v, N, rfl, hv, hN, hE, hS'⟩ := he
    have := (hk v N w' hv hS' (fun k hk => (hN k hk).2) (fun k hk => hk.elim (fun h1 => Nat.lt_of_lt_of_le (hU k h1) hE.size) fun h1 => (hN k h1).2)).1
    unfold DR at this
    exact hK.out _ _ hS' fun _ => this _ (ha.put (by simpa using hd') v))
  simp only [twoB, Bool.and_eq_true, beq_iff_eq, Bool.or_eq_true] at hc
  obtain ⟨⟨h3, h4⟩, h5⟩ := hc
  rcases h3 with h3 | h3
  · exact two_ l' l1 hi hj rfl rfl (by simp [h3, h4, h5]) (by simpa using hdi) (by simpa using hdj) run_i run_j
  · exact two_ l1 l' hj hi rfl rfl (by simp [h3, h4, h5]) (by simpa using hdj) (by simpa using hdi) run_j run_i
/-- .. a call that computes v. -/
theorem DRA.callq {g : Nat} {xs : List Operand} {vs : List Value} {ats : Array TypeId} [hcl : CI P g] {tyi : TypeId} {posi : String} {afti : Array Edge} {ag : Bool} {s : Nat} {zv : Value} (i j : Nat) (l1 l1' : Array Bool)
    (hi : ops[i]? = some ⟨some d, .alloc t, tyi, posi, afti, none⟩) (hj : ops[j]? = some ⟨some dj, .call { callee := .value (.func g), args := xs.toArray, argTypes := ats }, ty, pos, aft, none⟩)
    (hc : twoB ops l l' l1 i j = true) (hc' : readyB .any ops l' l1' j = true) (hdi : (ds.contains i) = false) (hdj : (ds.contains j) = false) (hx : opvs e xs = some vs) (hd : Nat.blt d n = true) (hd' : Nat.blt dj n = true) (hn : e.get d = none) (hne : Nat.beq dj d = false)
    (ht : TI P t ag s zv) (hz : zv.cells = cs.toArray) (hS : S w) (hS1 : ∀ w w', S w → Ext No w w' → S w') (hsz : ∀ w, S w → w0.heap.size ≤ w.heap.size) (hU : ∀ k, U k → k < w.heap.size)
    (h : ∀ w1, Ext No w w1 → S w1 → Calls P g vs.toArray w1 fun e w' => e = .returned v ∧ Ext No w1 w')
    (hk : ∀ w', Ext No w w' → S w' → (∀ k, U k → k < w'.heap.size) → DRA P f n R S ds ops w0 d cs t U fuel l1 l1' k ((dj, v) :: e) w') : DRA P f n R S ds ops w0 d cs t U (fuel + 1) l l' k e w :=
  DRA.call i j l1 l1' (fun u N w' => u = v ∧ N = No ∧ Ext No w w') No hi hj hc hc' hdi hdj hx hd hd' hn hne ht hz hS hS1 hsz (fun _ h => h.elim) hU
    (fun w1 he hs => (h w1 he hs).mono fun en w' h' => ⟨v, No, h'.1, ⟨rfl, rfl, he.trans h'.2⟩, fun _ h => h.elim, h'.2, hS1 _ _ hs h'.2⟩)
    (fun u N w' h' hs _ hu => by
      obtain ⟨rfl, rfl, he⟩ := h'
      have h2 := hk w' he hs fun k hk => hu k (.inl hk)
      exact ⟨h2.1, fun b hb hUb hB => h2.2 b hb (fun h => hUb (.inl h)) hB⟩)
/-- The chain has ended. -/
theorem DRA.end_ {tyi : TypeId} {posi : String} {afti : Array Edge} {ag : Bool} {s : Nat} {zv : Value} (i : Nat) (hi : ops[i]? = some ⟨some d, .alloc t, tyi, posi, afti, none⟩) (hc : readyB .any ops l l' i = true) (hdi : (ds.contains i) = false) (hd : Nat.blt d n = true) (ht : TI P t ag s zv) (hz : zv.cells = cs.toArray)
    (hS : S w) (hS1 : ∀ w w', S w → Ext No w w' → S w') (hsz : ∀ w, S w → w0.heap.size ≤ w.heap.size) (hU : ∀ k, U k → k < w.heap.size)
    (hk : ∀ b w', Ext No w w' → S w' → w0.heap.size ≤ b → ¬ U b → BlkIn w' ⟨b, cs, t⟩ → DR P f n R S ds ops fuel l' k ((d, .pointer (some ⟨b, 0, none⟩)) :: e) w') : DRA P f n R S ds ops w0 d cs t U fuel l l' k e w := by
  have hal : S (w.alloc (.cells cs.toArray t)) := hS1 _ _ hS (.alloc _ _)
  refine ⟨?_, fun b hb hUb hB => hk b w (Ext.refl _ _) hS hb hUb hB⟩
  exact DR.one i l' (w.alloc (.cells cs.toArray t)) hi hc hdi (fun a _ => by simp [execOp, Instr.alloc, newVar, newRow, ht.zero, hz]) hd hal (hk _ _ (.alloc _ _) hal (hsz w hS) (fun h => by have := hU _ h; omega) (heap_alloc_new w _))
/-- A call whose guard is met, whatever it leaves. -/
theorem DR.callCG {g : Nat} {x : Operand} {xs : List Operand} {vs cap : List Value} {ats : Array TypeId} (i : Nat) (l' : Array Bool) {j dj : Nat} {r : Bool} (Φ : Value → World → Prop) (hi : ops[i]? = some ⟨some d, .call { callee := .value x, args := xs.toArray, argTypes := ats }, ty, pos, aft, some (j, r)⟩)
    (hj : (ops[j]?).bind (·.dst) = some dj) (hjn : Nat.blt dj n = true) (hgv : e.get dj = some (.bool r))
    (hc : readyB .any ops l l' i = true) (hds : (ds.contains i) = false) (hf : opv e x = some (.func (.func g) #[] cap.toArray)) (hcl : CI P g) (hx : opvs e xs = some vs) (hd : Nat.blt d n = true)
    (h : Calls P g (vs ++ cap).toArray w fun e w' => ∃ v, e = .returned v ∧ Φ v w') (hS : ∀ v w', Φ v w' → S w') (hk : ∀ v w', Φ v w' → S w' → DR P f n R S ds ops fuel l' k ((d, v) :: e) w') : DR P f n R S ds ops (fuel + 1) l k e w := by
  unfold DR
  intro a ha
  refine one_ l' hi rfl hc (by simpa using hds) fun K hK => want_if (by simp [Region.wanted, guard_val ha hj hjn hgv]) ?_
  have hr := run_call (P := P) (ty := ty) (pos := pos) (aft := aft) (dst := some d) (gd := some (j, r)) (ats := ats) ha hf hx hcl.run w
  unfold Oper.wp
  rw [hr, Oper.upon_enter]
  have h' : Calls P g (vs.toArray ++ cap.toArray) w fun e w' => ∃ v, e = .returned v ∧ Φ v w' := by simpa using h
  refine h'.mono fun en w' he => ?_
  obtain ⟨v, rfl, hv⟩ := he
  exact hK.out _ _ (hS v w' hv) fun hS' => by have := hk v w' hv hS'; unfold DR at this; exact this _ (ha.put (by simpa using hd) v)
end
end Go.Proofs.Ytmkpbbdocndfbaa
/- Lanes beside the document's: what holds of both between two steps. -/
namespace Go.Proofs.Ytmkpbbdocndfbaa
open Go.RowKit Go.Proofs
attribute [local irreducible] Yl JL J G GL GA GQ DR

/-- Lanes at g, and a list of the document's that tells the same; K where the list lies; all apart; made since W but for K. -/
structure LR (W w : World) (g : Nat) (O E K : Nat → Prop) (ln pl : Int) (ms : List Msg) (v : Value) (zs : Zs) : Prop where
  l : LObj w g O E ln pl ms
  r : Rd 5 MsgC w K v zs
  eq : zs.map (·.2) = St.srt Msg.lane ms
  k1 : ∀ k, K k → ¬ O k ∧ ¬ E k
  k2 : ∀ k, K k → k < w.heap.size
  oe : ∀ k, O k ∨ E k → W.heap.size ≤ k
section
variable {W w w' : World} {g : Nat} {O E K D : Nat → Prop} {ln pl : Int} {ms : List Msg} {v : Value} {zs : Zs}
theorem LR.ext (h : LR W w g O E K ln pl ms v zs) (he : Ext D w w') (hd : ∀ k, D k → ¬ O k ∧ ¬ E k ∧ ¬ K k) : LR W w' g O E K ln pl ms v zs :=
  ⟨h.l.ext he fun k hk hD => hk.elim (hd k hD).1 (hd k hD).2.1, h.r.ext he fun k _ hk hD => (hd k hD).2.2 hk, h.eq, h.k1, fun k hk => Nat.lt_of_lt_of_le (h.k2 k hk) he.size, h.oe⟩
theorem LR.ext0 (h : LR W w g O E K ln pl ms v zs) (he : Ext No w w') : LR W w' g O E K ln pl ms v zs := h.ext he fun _ h => h.elim
theorem LR.len (h : LR W w g O E K ln pl ms v zs) : zs.length ≤ 24 := by
  have h1 := congrArg List.length h.eq
  rw [St.srt_len, List.length_map] at h1
  rw [h1]; exact h.l.len
theorem LR.srt (h : LR W w g O E K ln pl ms v zs) : St.Srt Msg.lane (zs.map (·.2)) := by rw [h.eq]; exact St.srt_srt ms
/-- What is in neither, made before or known from elsewhere. -/
theorem LR.lt (h : LR W w g O E K ln pl ms v zs) {k : Nat} (hk : O k ∨ E k ∨ K k) : k < w.heap.size := by
  rcases hk with hk | hk | hk
  · exact h.l.lt k (.inl hk)
  · exact h.l.lt k (.inr hk)
  · exact h.k2 k hk
/-- Another list of the document's, read of what was there, of what came in, and of what is new since w. -/
theorem LR.list (h : LR W w g O E K ln pl ms v zs) (he : Ext No w w') (_ : W.heap.size ≤ w.heap.size) {v' : Value} {zs' : Zs} {_ : List Msg} (hr : Rd 5 MsgC w' (fun k => (K k ∨ k < W.heap.size) ∨ w.heap.size ≤ k) v' zs') :
    LObj w' g O E ln pl ms ∧ Rd 5 MsgC w' (fun k => ((K k ∨ k < W.heap.size) ∨ w.heap.size ≤ k) ∧ k < w'.heap.size) v' zs' ∧ (∀ k, (((K k ∨ k < W.heap.size) ∨ w.heap.size ≤ k) ∧ k < w'.heap.size) → ¬ O k ∧ ¬ E k) :=
  ⟨h.l.ext0 he, hr.mono fun k hk ho => ⟨ho, hk⟩, fun k hk => by
    have key : ∀ k, O k ∨ E k → k < w.heap.size ∧ W.heap.size ≤ k := fun k hk => ⟨h.l.lt k hk, h.oe k hk⟩
    refine ⟨fun ho => ?_, fun ho => ?_⟩
    · have := key k (.inl ho)
      rcases hk.1 with (h1 | h1) | h1
      · exact (h.k1 k h1).1 ho
      · omega
      · omega
    · have := key k (.inr ho)
      rcases hk.1 with (h1 | h1) | h1
      · exact (h.k1 k h1).2 ho
      · omega
      · omega⟩
end
/-- Both behind an operation of the lanes that tells the document's list. -/
theorem LTo.lr {W w w' : World} {g : Nat} {O E K : Nat → Prop} {ln pl : Int} {ms ms' : List Msg} {v : Value} {zs : Zs} (h : LTo w w' g O E ln pl ms') (_ : LObj w g O E ln pl ms) (hr : Rd 5 MsgC w K v zs) (hk : ∀ k, K k → ¬ O k ∧ ¬ E k) (hk2 : ∀ k, K k → k < w.heap.size)
    (hoe : ∀ k, O k ∨ E k → W.heap.size ≤ k) (hW : W.heap.size ≤ w.heap.size) (he : zs.map (·.2) = St.srt Msg.lane ms') : ∃ O' E', LR W w' g O' E' K ln pl ms' v zs ∧ (∀ k, O' k ∨ E' k → (O k ∨ E k) ∨ w.heap.size ≤ k) := by
  obtain ⟨hE, O', E', hL, hO, hE', -, -⟩ := h.open_
  have hs := hE.size
  refine ⟨O', E', ⟨hL, hr.ext hE fun k _ h1 h2 => (hk k h1).1 h2, he, fun k h1 => ⟨fun h2 => ?_, fun h2 => ?_⟩, fun k h1 => by have := hk2 k h1; omega, fun k h1 => ?_⟩, fun k h1 => ?_⟩
  · rcases hO k h2 with h3 | h3
    · exact (hk k h1).1 h3
    · have := hk2 k h1; omega
  · rcases hE' k h2 with h3 | h3
    · exact (hk k h1).2 h3
    · have := hk2 k h1; omega
  · rcases h1 with h1 | h1
    · rcases hO k h1 with h3 | h3
      · exact hoe k (.inl h3)
      · omega
    · rcases hE' k h1 with h3 | h3
      · exact hoe k (.inr h3)
      · omega
  · rcases h1 with h1 | h1
    · rcases hO k h1 with h3 | h3
      · exact .inl (.inl h3)
      · exact .inr h3
    · rcases hE' k h1 with h3 | h3
      · exact .inl (.inr h3)
      · exact .inr h3
theorem room_srt (ln pl : Int) (ms : List Msg) (q : Int) : room ln pl (St.srt Msg.lane ms) q = room ln pl ms q := by unfold room cnt; rw [filt_srt]
theorem rputR_srt (ln pl : Int) (ms : List Msg) (m : Msg) : rputR ln pl (St.srt Msg.lane ms) m = ((putR ln pl ms m).1, St.srt Msg.lane (putR ln pl ms m).2) := by
  unfold rputR putR
  rw [room_srt]
  split
  · rfl
  · split
    · rfl
    · rw [St.srt_snoc]
theorem same_true {w : World} {ok1 ok2 : Nat → Prop} {v1 v2 : Value} {xs ys : Zs} (h1 : Rd 5 MsgC w ok1 v1 xs) (h2 : Rd 5 MsgC w ok2 v2 ys) (h : xs.map (·.2) = ys.map (·.2)) :
    Calls Try.prog 37 #[v1, v2] w fun e w' => e = .returned (.bool true) ∧ Ext No w w' := (same_spec h1 h2).mono fun e w' he => by simpa [h] using he
section
variable {P : Program} {n : Nat} {e : Env} {C : World → Prop} {ty t t2 : TypeId} {pos : String} {aft : Array Edge} {dst : Option Tmp} {gd : Option (Nat × Bool)} {x y : Operand} {kd : IntKind} {p q : Int}
theorem Y_eql_t (hx : opv e x = some (.int kd p)) (hy : opv e y = some (.int kd q)) (h : p = q) : Yl P C n e ⟨dst, .binOp .eql t x y t2, ty, pos, aft, gd⟩ (.bool true) := by have := Y_eql (P := P) (C := C) (n := n) (dst := dst) (t := t) (t2 := t2) (ty := ty) (pos := pos) (aft := aft) (gd := gd) hx hy; rwa [decide_eq_true h] at this
theorem Y_eql_f (hx : opv e x = some (.int kd p)) (hy : opv e y = some (.int kd q)) (h : ¬ p = q) : Yl P C n e ⟨dst, .binOp .eql t x y t2, ty, pos, aft, gd⟩ (.bool false) := by have := Y_eql (P := P) (C := C) (n := n) (dst := dst) (t := t) (t2 := t2) (ty := ty) (pos := pos) (aft := aft) (gd := gd) hx hy; rwa [decide_eq_false h] at this
theorem Y_neq_f (hx : opv e x = some (.int kd p)) (hy : opv e y = some (.int kd q)) (h : p = q) : Yl P C n e ⟨dst, .binOp .neq t x y t2, ty, pos, aft, gd⟩ (.bool false) := by have := Y_neq (P := P) (C := C) (n := n) (dst := dst) (t := t) (t2 := t2) (ty := ty) (pos := pos) (aft := aft) (gd := gd) hx hy; rwa [decide_eq_false (by simpa using h)] at this
theorem Y_neq_t (hx : opv e x = some (.int kd p)) (hy : opv e y = some (.int kd q)) (h : ¬ p = q) : Yl P C n e ⟨dst, .binOp .neq t x y t2, ty, pos, aft, gd⟩ (.bool true) := by have := Y_neq (P := P) (C := C) (n := n) (dst := dst) (t := t) (t2 := t2) (ty := ty) (pos := pos) (aft := aft) (gd := gd) hx hy; rwa [decide_eq_true (by simpa using h)] at this
end
end Go.Proofs.Ytmkpbbdocndfbaa
