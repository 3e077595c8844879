/- More on classes of worlds, rows, comparisons that are true. -/
import Derived.Test.YtmkpbbdocndfbaaLaw10a
namespace Go.Proofs.Ytmkpbbdocndfbaa
open Go.RowKit Go.Proofs
attribute [local irreducible] Yl JL J G GL GA GQ DR

theorem Cls.start2 {x y : Blk} {w : World} (hx : BlkIn w x) (hy : BlkIn w y) (hn : y.b ≠ x.b) : Cls w (fun k => k = x.b ∨ k = y.b) [x, y] w := ⟨.refl _ _, by simp [hx, hy], ⟨by simp [hn], by simp, trivial⟩, by simp⟩
theorem Cls.start3 {x y z : Blk} {w : World} (hx : BlkIn w x) (hy : BlkIn w y) (hz : BlkIn w z) (h1 : y.b ≠ x.b) (h2 : z.b ≠ x.b) (h3 : z.b ≠ y.b) : Cls w (fun k => k = x.b ∨ k = y.b ∨ k = z.b) [x, y, z] w :=
  ⟨.refl _ _, by simp [hx, hy, hz], ⟨by simp [h1, h2], by simp [h3], by simp, trivial⟩, by simp⟩
theorem Cls.start4 {x y z u : Blk} {w : World} (hx : BlkIn w x) (hy : BlkIn w y) (hz : BlkIn w z) (hu : BlkIn w u) (h1 : y.b ≠ x.b) (h2 : z.b ≠ x.b) (h3 : z.b ≠ y.b) (h4 : u.b ≠ x.b) (h5 : u.b ≠ y.b) (h6 : u.b ≠ z.b) : Cls w (fun k => k = x.b ∨ k = y.b ∨ k = z.b ∨ k = u.b) [x, y, z, u] w :=
  ⟨.refl _ _, by simp [hx, hy, hz, hu], ⟨by simp [h1, h2, h4], by simp [h3, h5], by simp [h6], by simp, trivial⟩, by simp⟩
/-- A block that is known and none of D's is new. -/
theorem Cls.fresh {w0 w : World} {D : Nat → Prop} {x : Blk} {H : List Blk} (h : Cls w0 D (x :: H) w) (hD : ∀ k, D k → ∃ y ∈ H, y.b = k) : w0.heap.size ≤ x.b := by
  rcases h.mine x (.head _) with h1 | h1
  · obtain ⟨y, hy, he⟩ := hD _ h1
    exact absurd he (h.apart.1 y hy)
  · exact h1
/-- Behind what turned blocks made since w0, but none that is known. -/
theorem Cls.extA {w0 w w1 : World} {D D2 : Nat → Prop} {H : List Blk} (h : Cls w0 D H w) (he : Ext D2 w w1) (h1 : ∀ k, k < w0.heap.size → D2 k → D k) (h2 : ∀ x ∈ H, ¬ D2 x.b) : Cls w0 D H w1 :=
  ⟨h.ext.then he h1, fun x hx => (h.has x hx).keep he (h2 x hx), h.apart, h.mine⟩
/-- Where a row lies whose truth hangs on some blocks alone. -/
theorem Foot.row_in {w : World} {ok : Nat → Prop} {e sz : Nat} {v : Value} {chs : List (List Value)} (h : Foot (fun w => Row w e sz v chs) w ok) (hn : 0 < chs.length) (hs : 0 < sz) {g : Nat} (hg : v.ownBlock = some g) : ok g := by
  apply Classical.byContradiction
  intro hno
  have h1 := h { w with heap := w.heap.setIfInBounds g (.cells #[] e) } fun k hk _ => by
    rw [Array.getElem?_setIfInBounds_ne]
    intro hkg
    subst hkg
    exact hno hk
  obtain ⟨g', cap, cur, hv, hb, hc1, _, hc3, _⟩ := h1.block hn
  rw [hv] at hg
  simp [Value.ownBlock] at hg
  subst hg
  obtain ⟨g2, cap2, cur2, hv2, hb2, _⟩ := h.now.block hn
  rw [hv] at hv2
  injection hv2 with e1
  injection e1 with e1
  injection e1 with e1
  subst e1
  have hlt := (Array.getElem?_eq_some_iff.1 hb2).1
  rw [Array.getElem?_setIfInBounds_self_of_lt hlt] at hb
  cases hb
  have : 0 < cap * sz := Nat.mul_pos (by omega) hs
  simp at hc3
  omega
theorem one_true {w : World} {ok1 ok2 : Nat → Prop} {v1 v2 : Value} {m : Msg} (h1 : Foot (fun w => RMsg w v1 m) w ok1) (h2 : Foot (fun w => RMsg w v2 m) w ok2) :
    Calls Try.prog 35 #[v1, v2] w fun e w' => e = .returned (.bool true) ∧ Ext No w w' := (one_spec h1 h2).mono fun e w' he => by simpa using he
theorem laneSame_true {w : World} {ok1 ok2 : Nat → Prop} {v1 v2 : Value} {xs ys : List (List Value × Msg)} (h1 : Rd 5 MsgC w ok1 v1 xs) (h2 : Rd 5 MsgC w ok2 v2 ys) (h : xs.map (·.2) = ys.map (·.2)) :
    Calls Try.prog 47 #[v1, v2] w fun e w' => e = .returned (.bool true) ∧ Ext No w w' := (laneSame_spec h1 h2).mono fun e w' he => by simpa [h] using he
theorem Rd.of_blk1 {w : World} {b : Nat} {t : TypeId} {ws : Value} {m : Msg} {ok : Nat → Prop} (h : BlkIn w ⟨b, msgC ws m, t⟩) (hw : Foot (fun w => RInts w ws m.words) w ok) (hl : m.words.length ≤ 8) : Rd 5 MsgC w All (.slice (some ⟨b, 0, none⟩) 1 1) [(msgC ws m, m)] := by
  refine ⟨(h.foot.imp fun w hw => ?_).mono fun _ _ _ => trivial, fun z hz => ?_⟩
  · exact (Row.of_blk (el := t) (sz := 5) (chs := [msgC ws m]) hw (by simp) (by simp [msgC]) rfl (by simp [maxLen])).rrow
  · simp at hz; subst hz
    exact (MsgC.mk hw hl).mono fun _ _ _ => trivial

/-- Where all that may have turned is known, and as it was, nothing has turned. -/
theorem Cls.still {w0 w : World} {D : Nat → Prop} {H : List Blk} (h : Cls w0 D H w) (h0 : ∀ k, D k → ∃ x ∈ H, x.b = k ∧ BlkIn w0 x) : Ext No w0 w :=
  ⟨h.ext.os, h.ext.tape, h.ext.output, h.ext.size, fun k hk _ => by
    by_cases hd : D k
    · obtain ⟨x, hx, rfl, h1⟩ := h0 k hd
      exact (h.has x hx).trans h1.symm
    · exact h.ext.block k hk hd⟩
theorem MsgN.open_ {w : World} {ok : Nat → Prop} {cs : List Value} {m : Msg} (h : Foot (fun w => MsgN w cs m) w ok) : ∃ ws, cs = msgC ws m ∧ Foot (fun w => Row w 3 1 ws (ints m.words)) w ok ∧ m.words.length ≤ 8 := by
  obtain ⟨ws, hv, hi, hl⟩ := h.now
  refine ⟨ws, hv, h.imp fun w' hw => ?_, hl⟩
  obtain ⟨ws', hv', hi', _⟩ := hw
  rw [hv] at hv'
  simp [msgC] at hv'
  subst hv'
  exact hi'
/-- One number of a row of one's own is stored. -/
theorem Row.setInt {w : World} {g m c i : Nat} {ys : List Int} (h : Row w 3 1 (.slice (some ⟨g, 0, none⟩) m c) (ints ys)) (hi : i < ys.length) (y : Int) :
    ∃ w', (storeVar 3 ⟨g, i, none⟩ (.int .i64 y)).run Try.prog w = .ok () w' ∧ Row w' 3 1 (.slice (some ⟨g, 0, none⟩) m c) (ints (ys.set i y)) ∧ Ext (fun k => k = g) w w' := by
  obtain ⟨w', h1, h2, h3⟩ := Row.store (P := Try.prog) (t := 3) h rfl (i := i) (by rw [ints_len]; exact hi) (x := .int .i64 y) (l := [.int .i64 y]) rfl rfl (by simp [Value.oneCell'])
  rw [add_lit, Nat.zero_add, Nat.mul_one] at h1
  refine ⟨w', h1, ?_, h3⟩
  rw [show ints (ys.set i y) = (ints ys).set i [.int .i64 y] by rw [ints, List.map_set]; rfl]
  exact h2
theorem Row.ldsInt {w : World} {g m c i : Nat} {ys : List Int} {y : Int} (h : Row w 3 1 (.slice (some ⟨g, 0, none⟩) m c) (ints ys)) (hi : ys[i]? = some y) : Lds Try.prog 3 ⟨g, i, none⟩ (.int .i64 y) w := by
  obtain ⟨g', cap, hv, hc⟩ := Row.cell h (i := i) (j := 0) (ints_at hi) rfl
  cases hv
  exact lds_one (by simpa using hc)
end Go.Proofs.Ytmkpbbdocndfbaa
