/- The engine: more of regions whose order is drawn. -/
import Derived.Test.YtmkpbbdocndfbaaDel
namespace Go.Proofs.Ytmkpbbdocndfbaa
open Go.RowKit Go.Proofs.YtmkpbbdocndfbaaW.PrintLast
section
variable {P : Program} {f n : Nat} {R : Ending → World → Prop} {k : List Item} {e e' : Env} {w w' w0 : World} {a : Act} {C C' S : World → Prop} {D : Nat → Prop} {H H' : List Blk}
variable {ops : Array Oper} {ty t t2 : TypeId} {pos : String} {aft : Array Edge} {d fuel sz bytes el : Nat} {v : Value} {x y z : Operand} {b o : Nat} {cs : List Value} {ds : List Nat} {l : Array Bool}
/-- []T{x} -/
theorem DR.bslice1 {ag : Bool} {zv v : Value} {c : List Value} (i : Nat) (l' : Array Bool) (hi : ops[i]? = some ⟨some d, .buildSlice t 1 #[(0, x)], ty, pos, aft, none⟩) (hc : readyB .any ops l l' i = true) (hds : (ds.contains i) = false) (hs : SI P t el sz) (ht : TI P el ag sz zv) (hx : opv e x = some v) (hv : v.cells = c.toArray) (hl : c.length = sz) (hsz : Nat.blt 0 sz = true) (h24 : Nat.ble sz 1000 = true) (hd : Nat.blt d n = true) (hw : Cls w0 D H w) (hS : ∀ w', Ext No w w' → S w')
    (hk : ∀ b w', Cls w0 D (⟨b, c, el⟩ :: H) w' → S w' → DR P f n R S ds ops fuel l' k ((d, .slice (some ⟨b, 0, none⟩) 1 1) :: e) w') : DR P f n R S ds ops (fuel + 1) l k e w :=
  DR.one i l' (w.alloc (.cells c.toArray el)) hi hc hds (fun a ha => by
    have := run_bslice1 (P := P) (t := t) (el := el) (zv := zv) (by simpa using hsz) (by simpa using h24) hv hl w
    simp [execOp, ha.eval hx, this]) hd (hS _ (.alloc _ _)) (hk _ _ (hw.alloc c el) (hS _ (.alloc _ _)))
/-- An append of one element that was written out. -/
theorem DR.append1 {z : Value} {bt : Nat} {c : List Value} {chs : List (List Value)} (i : Nat) (l' : Array Bool) (hi : ops[i]? = some ⟨some d, .call { callee := .builtin .append, args := #[x, y], argTypes := #[t, t] }, ty, pos, aft, none⟩) (hc : readyB .any ops l l' i = true) (hds : (ds.contains i) = true) (ha : AI P t el z sz bytes)
    (hx : opv e x = some v) (hy : opv e y = some (.slice (some ⟨b, 0, none⟩) 1 1)) (hr : Row w el sz v chs) (hb : BlkIn w ⟨b, c, bt⟩) (hsz : Nat.blt 0 sz = true) (hl : c.length = sz) (h1 : ∀ u ∈ c, u.oneCell' = true)
    (hn : chs.length ≤ 1000000000) (hby : Nat.ble bytes 1000 = true) (hd : Nat.blt d n = true) (hk : ∀ v' w', Row w' el sz v' (chs ++ [c]) → Apd w w' v v' → DR P f n R S ds ops fuel l' k ((d, v') :: e) w') : DR P f n R S ds ops (fuel + 1) l k e w := by
  have hby' : bytes ≤ 1000 := by simpa using hby
  have hm := Nat.mul_le_mul (show chs.length + 1 ≤ 1000000001 by omega) hby'
  obtain ⟨v', w', h2, h3, h4⟩ := run_apd (P := P) (ty := ty) (t := t) (by simpa using hsz) hr (news := [c]) (by simpa using hl) (by simpa using hb.news) (by simpa using h1) (by simp only [List.length_cons, List.length_nil, Nat.zero_add]; omega) (by simp [maxLen]; omega) (c := 1)
  exact DR.oneL i l' w' hi hc hds (fun a hf => run_append hf hx hy h2) hd (hk v' w' h3 h4)
end
end Go.Proofs.Ytmkpbbdocndfbaa
