/- Lists in memory: rows that are read, rows of one's own (own work). -/
import Derived.Test.YtmkpbbdocndfbaaRet
import Derived.Maps.AppendAt
namespace Go.Proofs.Ytmkpbbdocndfbaa
open Go.RowKit

open Go.Proofs.YtmkpbbdocndfbaaW.PrintLast in
/-- A store of one element of a row of one's own, the last but what waits for it. -/
theorem DR.rowStore {P : Program} {f n : Nat} {R : Ending → World → Prop} {k : List Item} {e : Env} {w : World} {S : World → Prop} {ds : List Nat} {ops : Array Oper} {ty t : TypeId} {pos : String} {aft : Array Edge} {fuel : Nat} {x y : Operand} {l : Array Bool} (i : Nat) (l' : Array Bool) (hi : ops[i]? = some ⟨none, .store t x y, ty, pos, aft, none⟩) (hc : readyB .any ops l l' i = true) (hds : (ds.contains i) = true) {A : Addr} {q : Nat} {u : Value} (Q : World → Prop) (hx : opv e x = some (.pointer (some (A.add q)))) (hy : opv e y = some u)
    (hst : ∃ w', (storeVar t (A.add q) u).run P w = .ok () w' ∧ Q w') (hk : ∀ w', Q w' → DR P f n R S ds ops fuel l' k e w') : DR P f n R S ds ops (fuel + 1) l k e w := by
  obtain ⟨w', hr, hQ⟩ := hst
  exact DR.st i l' w' hi hc hds (fun a ha => by simp [execOp, Instr.storeAt, Instr.sureAddr, ha.eval hx, ha.eval hy, hr]) (hk w' hQ)

class AI (P : Program) (t : TypeId) (e : outParam TypeId) (z : outParam Value) (size bytes : outParam Nat) : Prop where
  und : P.underlying t = some (.slice e)
  info : (P.info? e).map (fun i => (i.zero, i.size, i.bytes)) = some (some z, size, bytes)
  zs : z.cells.size = size
theorem info_of {P : Program} {e : TypeId} {z : Value} {size bytes : Nat} (h : (P.info? e).map (fun i => (i.zero, i.size, i.bytes)) = some (some z, size, bytes)) : ∃ i, P.info? e = some i ∧ i.zero = some z ∧ i.size = size ∧ i.bytes = bytes := by
  cases hi : P.info? e with
  | none => simp [hi] at h
  | some i => simp [hi] at h; exact ⟨i, rfl, h.1, h.2.1, h.2.2⟩

theorem add_add (a : Addr) (m j : Nat) : (a.add m).add j = a.add (m + j) := by
  unfold Addr.add
  by_cases hm : m = 0
  · subst hm; simp
  · by_cases hj : j = 0
    · subst hj; simp
    · simp [hm, hj, Nat.add_assoc]

section
variable {α β : Type} {w w1 w' : World} {D ok ok' : Nat → Prop} {v v' : Value} {e sz : Nat} {chs : List (List Value)}

/-! ### A row of one's own -/
def Row (w : World) (e sz : Nat) (v : Value) (chs : List (List Value)) : Prop := (∀ ch ∈ chs, ch.length = sz) ∧ w.ownsRow 0 e sz v chs.length chs.flatten
theorem Row.nil (w : World) (e sz : Nat) : Row w e sz (.slice none 0 0) [] := ⟨by simp, by simp, .inl ⟨rfl, rfl⟩⟩
theorem Row.lt (h : Row w e sz v chs) {g : Nat} (hg : v.ownBlock = some g) : g < w.heap.size := (h.2.lt g hg).2
theorem Row.foot (h : Row w e sz v chs) : Foot (fun w => Row w e sz v chs) w (fun k => v.ownBlock = some k) := by
  intro w' hw
  refine ⟨h.1, h.2.1, ?_⟩
  rcases h.2.2 with hn | ⟨g, cap, cur, rfl, hb, hgg, rest⟩
  · exact .inl hn
  · refine .inr ⟨g, cap, cur, rfl, hb, ?_, rest⟩
    rw [hw g (by simp [Value.ownBlock]) (Array.getElem?_eq_some_iff.1 hgg).1]
    exact hgg
theorem Row.ext (h : Row w e sz v chs) (he : Ext D w w1) (hd : ∀ g, v.ownBlock = some g → ¬ D g) : Row w1 e sz v chs := h.foot.at_ he fun k _ hk => hd k hk
theorem Row.ext0 (h : Row w e sz v chs) (he : Ext No w w1) : Row w1 e sz v chs := h.ext he fun _ _ h => h
theorem Row.slice (h : Row w e sz v chs) : ∃ A c, v = .slice A chs.length c ∧ chs.length ≤ c ∧ c ≤ maxLen := by
  rcases h.2.2 with ⟨rfl, hn⟩ | ⟨g, cap, cur, rfl, _, _, h1, h2, _⟩
  · exact ⟨none, 0, by rw [hn], by omega, by simp [maxLen]⟩
  · exact ⟨_, _, rfl, h1, h2⟩
theorem Row.len (h : Row w e sz v chs) : chs.length ≤ maxLen := by
  obtain ⟨A, c, _, h1, h2⟩ := h.slice; omega
/-- The chunk at i. -/
theorem flatten_at : ∀ (chs : List (List Value)) (sz : Nat), (∀ ch ∈ chs, ch.length = sz) → ∀ (i j : Nat) (ch : List Value) (u : Value), chs[i]? = some ch → ch[j]? = some u → chs.flatten[i * sz + j]? = some u
  | [], _, _, i, j, ch, u, h, _ => by simp at h
  | c :: r, sz, hs, 0, j, ch, u, h, hu => by
    simp at h; subst h
    simp only [List.flatten_cons, Nat.zero_mul, Nat.zero_add]
    rw [List.getElem?_append_left (List.getElem?_eq_some_iff.1 hu).1]; exact hu
  | c :: r, sz, hs, i + 1, j, ch, u, h, hu => by
    simp only [List.getElem?_cons_succ] at h
    have h1 := flatten_at r sz (fun x hx => hs x (.tail _ hx)) i j ch u h hu
    have hc : c.length = sz := hs c (.head _)
    simp only [List.flatten_cons]
    rw [List.getElem?_append_right (by rw [hc, Nat.add_mul]; omega), hc, show (i + 1) * sz + j - sz = i * sz + j by rw [Nat.add_mul]; omega]
    exact h1
theorem flatten_len : ∀ (chs : List (List Value)) (sz : Nat), (∀ ch ∈ chs, ch.length = sz) → chs.flatten.length = chs.length * sz
  | [], _, _ => by simp
  | c :: r, sz, hs => by
    simp only [List.flatten_cons, List.length_append, List.length_cons]
    rw [flatten_len r sz (fun x hx => hs x (.tail _ hx)), hs c (.head _), Nat.add_mul]; omega
theorem flatten_take : ∀ (chs : List (List Value)) (sz i : Nat), (∀ ch ∈ chs, ch.length = sz) → chs.flatten.take (i * sz) = (chs.take i).flatten
  | [], _, _, _ => by simp
  | c :: r, sz, 0, hs => by simp
  | c :: r, sz, i + 1, hs => by
    have hc : c.length = sz := hs c (.head _)
    simp only [List.flatten_cons, List.take_succ_cons]
    rw [List.take_append, hc, List.take_of_length_le (by rw [hc, Nat.add_mul]; omega), show (i + 1) * sz - sz = i * sz by rw [Nat.add_mul]; omega, flatten_take r sz i (fun x hx => hs x (.tail _ hx))]
theorem flatten_drop : ∀ (chs : List (List Value)) (sz i : Nat), (∀ ch ∈ chs, ch.length = sz) → chs.flatten.drop (i * sz) = (chs.drop i).flatten
  | [], _, _, _ => by simp
  | c :: r, sz, 0, hs => by simp
  | c :: r, sz, i + 1, hs => by
    have hc : c.length = sz := hs c (.head _)
    simp only [List.flatten_cons, List.drop_succ_cons]
    rw [List.drop_append, hc, List.drop_eq_nil_of_le (by rw [hc, Nat.add_mul]; omega), show (i + 1) * sz - sz = i * sz by rw [Nat.add_mul]; omega, flatten_drop r sz i (fun x hx => hs x (.tail _ hx))]; simp
/-- Where the row lies, if it has an element. -/
theorem Row.block (h : Row w e sz v chs) (hn : 0 < chs.length) : ∃ g cap cur, v = .slice (some ⟨g, 0, none⟩) chs.length cap ∧ w.heap[g]? = some (.cells cur e (0, 0)) ∧ chs.length ≤ cap ∧ cap ≤ maxLen ∧ cur.size = cap * sz ∧ cur.toList.take (chs.length * sz) = chs.flatten := by
  rcases h.2.2 with ⟨_, hn'⟩ | ⟨g, cap, cur, rfl, _, hgg, rest⟩
  · omega
  · exact ⟨g, cap, cur, rfl, hgg, rest⟩
theorem Row.cell (h : Row w e sz v chs) {i j : Nat} {ch : List Value} {u : Value} (hi : chs[i]? = some ch) (hj : ch[j]? = some u) :
    ∃ g cap, v = .slice (some ⟨g, 0, none⟩) chs.length cap ∧ w.cell? ⟨g, i * sz + j, none⟩ = some u := by
  have hn : 0 < chs.length := by have := (List.getElem?_eq_some_iff.1 hi).1; omega
  obtain ⟨g, cap, cur, rfl, hb, _, _, _, ht⟩ := h.block hn
  refine ⟨g, cap, rfl, ?_⟩
  have h1 := flatten_at chs sz h.1 i j ch u hi hj
  rw [← ht, List.getElem?_take] at h1
  split at h1
  · rw [cell_of_row w g _ cur e (0, 0) hb]; simpa using h1
  · cases h1
/-- Some elements from the begin. -/
theorem Row.take (h : Row w e sz v chs) {A : Option Addr} {m c : Nat} (hv : v = .slice A m c) {i : Nat} (hi : i ≤ chs.length) : Row w e sz (.slice A i c) (chs.take i) := by
  subst hv
  refine ⟨fun ch hc => h.1 ch (List.mem_of_mem_take hc), ?_, ?_⟩
  · rw [← flatten_take chs sz i h.1, List.length_take, h.2.1, List.length_take]
    rw [Nat.min_eq_left hi, Nat.min_eq_left (Nat.mul_le_mul_right _ hi)]
  · rcases h.2.2 with ⟨hv, hn⟩ | ⟨g, cap, cur, hv, hb, hgg, h1, h2, h3, h4⟩
    · cases hv
      have : i = 0 := by omega
      subst this
      exact .inl ⟨rfl, by simp⟩
    · cases hv
      refine .inr ⟨g, c, cur, by rw [List.length_take, Nat.min_eq_left hi], hb, hgg, by rw [List.length_take]; omega, h2, h3, ?_⟩
      rw [List.length_take, Nat.min_eq_left hi, ← flatten_take chs sz i h.1, ← h4, List.take_take, Nat.min_eq_left (Nat.mul_le_mul_right _ hi)]

/-- A store of element i. -/
theorem set_flat (chs : List (List Value)) (sz i : Nat) (hs : ∀ ch ∈ chs, ch.length = sz) (l : List Value) (_ : l.length = sz) (hi : i < chs.length) :
    chs.flatten.take (i * sz) ++ l ++ chs.flatten.drop (i * sz + sz) = (chs.set i l).flatten := by
  rw [flatten_take chs sz i hs, show i * sz + sz = (i + 1) * sz by rw [Nat.add_mul]; omega, flatten_drop chs sz (i + 1) hs, List.set_eq_take_append_cons_drop, if_pos hi]
  simp
theorem Row.store {P : Program} {t : TypeId} {ag : Bool} {zv : Value} [ht : TI P t ag sz zv] (h : Row w e sz v chs) {A : Addr} {m c : Nat} (hv : v = .slice (some A) m c) {i : Nat} (hi : i < chs.length) {x : Value} {l : List Value} (hx : x.cells = l.toArray) (hl : l.length = sz) (h1 : ∀ u ∈ l, u.oneCell' = true) :
    ∃ w', (storeVar t (A.add (i * sz)) x).run P w = .ok () w' ∧ Row w' e sz v (chs.set i l) ∧ Ext (fun k => k = A.block) w w' := by
  obtain ⟨g, cap, cur, hv', hb, hc1, hc2, hcs, htk⟩ := h.block (by omega)
  rw [hv] at hv'
  cases hv'
  have hmul : (i + 1) * sz ≤ c * sz := Nat.mul_le_mul_right _ (by omega)
  rw [Nat.add_mul] at hmul
  have hb' : w.heap[g]? = some (.cells cur.toList.toArray e (0, 0)) := by simpa using hb
  have hst := run_storeVar (P := P) (t := t) (v := x) (o := i * sz) hb' hx hl (by simp [hcs]; omega) h1
  rw [add_lit, Nat.zero_add]
  refine ⟨_, hst, ⟨fun ch hc => ?_, ?_, ?_⟩, Ext.setRow w g _ rfl⟩
  · rcases List.mem_or_eq_of_mem_set hc with hc | rfl
    · exact h.1 ch hc
    · exact hl
  · rw [flatten_len _ sz (fun ch hc => ?_)]
    rcases List.mem_or_eq_of_mem_set hc with hc | rfl
    · exact h.1 ch hc
    · exact hl
  · refine .inr ⟨g, c, _, by rw [hv, List.length_set], Nat.zero_le _, setRow_heap w g cur _ e _ hb, by rw [List.length_set]; exact hc1, hc2, ?_, ?_⟩
    · simp only [List.size_toArray, List.length_append, List.length_take, List.length_drop, Array.length_toList, hl, hcs]; omega
    · rw [List.length_set, ← set_flat chs sz i h.1 l hl hi, ← htk]
      have hle : i * sz + sz ≤ chs.length * sz := by have := Nat.mul_le_mul_right sz (show i + 1 ≤ chs.length by omega); rw [Nat.add_mul] at this; omega
      have hA : (cur.toList.take (i * sz) ++ l).length = i * sz + sz := by rw [List.length_append, List.length_take, Array.length_toList, hl, hcs, Nat.min_eq_left (by omega)]
      rw [List.take_take, Nat.min_eq_left (by omega), List.drop_take, List.take_append, List.take_of_length_le (by rw [hA]; exact hle), hA]

/-! ### A list that is read -/
/-- The slice v has these chunks of cells. -/
def RRow (w : World) (sz : Nat) (v : Value) (chs : List (List Value)) : Prop :=
  ∃ A c, v = .slice A chs.length c ∧ chs.length ≤ c ∧ c ≤ maxLen ∧ (∀ ch ∈ chs, ch.length = sz) ∧ ∀ (i j : Nat) ch u, chs[i]? = some ch → ch[j]? = some u → ∃ ad, A = some ad ∧ w.cell? (ad.add (i * sz + j)) = some u
theorem RRow.nil (w : World) (sz : Nat) : RRow w sz (.slice none 0 0) [] := ⟨none, 0, rfl, by simp, by simp [maxLen], by simp, by simp⟩
theorem RRow.slice (h : RRow w sz v chs) : ∃ A c, v = .slice A chs.length c ∧ chs.length ≤ c ∧ c ≤ maxLen := by
  obtain ⟨A, c, h1, h2, h3, _⟩ := h; exact ⟨A, c, h1, h2, h3⟩
theorem RRow.len (h : RRow w sz v chs) : chs.length ≤ maxLen := by
  obtain ⟨A, c, h1, h2, h3⟩ := h.slice; omega
theorem RRow.size (h : RRow w sz v chs) : ∀ ch ∈ chs, ch.length = sz := by obtain ⟨A, c, _, _, _, h4, _⟩ := h; exact h4
theorem RRow.cell {A : Option Addr} {m c : Nat} (h : RRow w sz (.slice A m c) chs) {i j : Nat} {ch : List Value} {u : Value} (hi : chs[i]? = some ch) (hj : ch[j]? = some u) : ∃ ad, A = some ad ∧ w.cell? (ad.add (i * sz + j)) = some u := by
  obtain ⟨A', c', hv, _, _, _, h5⟩ := h
  cases hv
  exact h5 i j ch u hi hj
theorem RRow.some (h : RRow w sz v chs) (hsz : 0 < sz) (hn : 0 < chs.length) : ∃ ad c, v = .slice (some ad) chs.length c := by
  obtain ⟨A, c, hv, _, _, h4, h5⟩ := h
  have h0 : chs[0]? = Option.some chs[0] := List.getElem?_eq_getElem hn
  have hl := h4 chs[0] (List.getElem_mem hn)
  obtain ⟨ad, rfl, _⟩ := h5 0 0 chs[0] _ h0 (List.getElem?_eq_getElem (by omega))
  exact ⟨ad, c, hv⟩
/-- Some elements from the begin. -/
theorem RRow.take {A : Option Addr} {m c : Nat} (h : RRow w sz (.slice A m c) chs) {i : Nat} (hi : i ≤ chs.length) : RRow w sz (.slice A i c) (chs.take i) := by
  obtain ⟨A', c', hv, h2, h3, h4, h5⟩ := h
  cases hv
  refine ⟨A, c, by rw [List.length_take, Nat.min_eq_left hi], by rw [List.length_take]; omega, h3, fun ch hc => h4 ch (List.mem_of_mem_take hc), fun i' j ch u hi' hj => ?_⟩
  rw [List.getElem?_take] at hi'
  split at hi'
  · exact h5 i' j ch u hi' hj
  · cases hi'
/-- All but some elements at the begin. -/
theorem RRow.drop {A : Option Addr} {m c : Nat} (h : RRow w sz (.slice A m c) chs) {i : Nat} (hi : i ≤ chs.length) : RRow w sz (.slice (cutA A c i sz) (m - i) (c - i)) (chs.drop i) := by
  obtain ⟨A', c', hv, h2, h3, h4, h5⟩ := h
  cases hv
  refine ⟨_, c - i, by rw [List.length_drop], by rw [List.length_drop]; omega, by omega, fun ch hc => h4 ch (List.mem_of_mem_drop hc), fun i' j ch u hi' hj => ?_⟩
  rw [List.getElem?_drop] at hi'
  obtain ⟨ad, rfl, hc⟩ := h5 _ j ch u hi' hj
  have hlt : i + i' < chs.length := (List.getElem?_eq_some_iff.1 hi').1
  refine ⟨ad.add (i * sz), ?_, ?_⟩
  · unfold cutA; rw [if_neg (by omega)]; rfl
  · rw [add_add, ← hc]; congr 2; rw [Nat.add_mul, Nat.add_assoc]
/-- The slice v reads as told; what it leads to lies in ok. -/
structure Rd (sz : Nat) (el : World → List Value → α → Prop) (w : World) (ok : Nat → Prop) (v : Value) (zs : List (List Value × α)) : Prop where
  row : Foot (fun w => RRow w sz v (zs.map (·.1))) w ok
  el : ∀ z ∈ zs, Foot (fun w => el w z.1 z.2) w ok
section
variable {el : World → List Value → α → Prop} {zs : List (List Value × α)}
theorem Rd.nil (sz : Nat) (el : World → List Value → α → Prop) (w : World) (ok : Nat → Prop) : Rd sz el w ok (.slice none 0 0) [] := ⟨Foot.pure fun w => RRow.nil w sz, by simp⟩
theorem Rd.ext (h : Rd sz el w ok v zs) (he : Ext D w w1) (hd : ∀ k, k < w.heap.size → ok k → ¬ D k) : Rd sz el w1 ok v zs := ⟨h.row.ext he hd, fun z hz => (h.el z hz).ext he hd⟩
theorem Rd.ext0 (h : Rd sz el w ok v zs) (he : Ext No w w1) : Rd sz el w1 ok v zs := h.ext he fun _ _ _ h => h
theorem Rd.mono (h : Rd sz el w ok v zs) (hk : ∀ k, k < w.heap.size → ok k → ok' k) : Rd sz el w ok' v zs := ⟨h.row.mono hk, fun z hz => (h.el z hz).mono hk⟩
theorem Rd.old (h : Rd sz el w ok v zs) (he : Ext D w w1) (hd : ∀ k, k < w.heap.size → ok k → ¬ D k) : Rd sz el w1 (fun k => ok k ∧ k < w.heap.size) v zs := ⟨h.row.old he hd, fun z hz => (h.el z hz).old he hd⟩
theorem Rd.slice (h : Rd sz el w ok v zs) : ∃ A c, v = .slice A zs.length c ∧ zs.length ≤ c ∧ c ≤ maxLen := by simpa using h.row.now.slice
theorem Rd.len (h : Rd sz el w ok v zs) : zs.length ≤ maxLen := by simpa using h.row.now.len
theorem Rd.take {A : Option Addr} {m c : Nat} (h : Rd sz el w ok (.slice A m c) zs) {i : Nat} (hi : i ≤ zs.length) : Rd sz el w ok (.slice A i c) (zs.take i) :=
  ⟨h.row.imp fun w hw => by rw [List.map_take]; exact hw.take (by simpa using hi), fun z hz => h.el z (List.mem_of_mem_take hz)⟩
theorem Rd.drop {A : Option Addr} {m c : Nat} (h : Rd sz el w ok (.slice A m c) zs) {i : Nat} (hi : i ≤ zs.length) : Rd sz el w ok (.slice (cutA A c i sz) (m - i) (c - i)) (zs.drop i) :=
  ⟨h.row.imp fun w hw => by rw [List.map_drop]; exact hw.drop (by simpa using hi), fun z hz => h.el z (List.mem_of_mem_drop hz)⟩
theorem Rd.base (h : Rd sz el w ok v zs) (hsz : 0 < sz) (hn : 0 < zs.length) : ∃ ad c, v = .slice (some ad) zs.length c := by simpa using h.row.now.some hsz (by simpa using hn)
/-- Element i, as it is loaded. -/
theorem Rd.lds {P : Program} {t : TypeId} {zv : Value} [ht : TI P t true sz zv] {ad : Addr} {m c : Nat} (h : Rd sz el w ok (.slice (some ad) m c) zs) {i : Nat} {z : List Value × α} (hi : zs[i]? = some z) : Foot (Lds P t (ad.add (i * sz)) (.agg z.1.toArray)) w ok :=
  h.row.imp fun w hw => by
    have hz : (zs.map (·.1))[i]? = Option.some z.1 := by simp [hi]
    have h1 := run_loadCells_list (P := P) (w := w) (ad.add (i * sz)) z.1 (fun j u hj => by
      rw [add_add]
      obtain ⟨ad', h2, h3⟩ := hw.cell hz hj
      cases h2; exact h3)
    rw [hw.size _ (List.mem_of_getElem? hz)] at h1
    simp [Lds, loadVar, ht.isAgg, ht.sizeOf, h1]
theorem Rd.lds1 {P : Program} {t : TypeId} {zv : Value} {s : Nat} [ht : TI P t false s zv] {ad : Addr} {m c : Nat} (h : Rd 1 el w ok (.slice (some ad) m c) zs) {i : Nat} {z : List Value × α} {u : Value} (hi : zs[i]? = some z) (hu : z.1 = [u]) : Foot (Lds P t (ad.add (i * 1)) u) w ok :=
  h.row.imp fun w hw => by
    have hz : (zs.map (·.1))[i]? = Option.some z.1 := by simp [hi]
    obtain ⟨ad', h2, h3⟩ := hw.cell (i := i) (j := 0) hz (by rw [hu]; rfl)
    cases h2
    simp only [Nat.add_zero, Nat.mul_one] at h3
    simp [Lds, loadVar, ht.isAgg, h3]
end
/-- A load of element i. -/
theorem lds_cells {P : Program} {t : TypeId} {zv : Value} [ht : TI P t true sz zv] {ad : Addr} {m : Nat} {cs : List Value} (hl : cs.length = sz) (hc : ∀ j u, cs[j]? = some u → w.cell? (ad.add (m + j)) = some u) : Lds P t (ad.add m) (.agg cs.toArray) w := by
  have h1 := run_loadCells_list (P := P) (w := w) (ad.add m) cs (fun j u hj => by rw [add_add]; exact hc j u hj)
  rw [hl] at h1
  simp [Lds, loadVar, ht.isAgg, ht.sizeOf, h1]
theorem lds_one {P : Program} {t : TypeId} {s : Nat} {zv : Value} [ht : TI P t false s zv] {ad : Addr} {u : Value} (hc : w.cell? ad = some u) : Lds P t ad u w := by
  simp [Lds, loadVar, ht.isAgg, hc]

/-! ### A list of one's own -/
/-- The row v is one's own: its elements read as told; what they lead to lies in ok, which is apart from the row. -/
structure Own (e sz : Nat) (el : World → List Value → α → Prop) (w : World) (ok : Nat → Prop) (v : Value) (zs : List (List Value × α)) : Prop where
  row : Row w e sz v (zs.map (·.1))
  el : ∀ z ∈ zs, Foot (fun w => el w z.1 z.2) w ok
  apart : ∀ k, ok k → v.ownBlock ≠ some k
section
variable {el : World → List Value → α → Prop} {zs : List (List Value × α)}
theorem Own.nil (e sz : Nat) (el : World → List Value → α → Prop) (w : World) (ok : Nat → Prop) : Own e sz el w ok (.slice none 0 0) [] := ⟨Row.nil w e sz, by simp, fun k _ h => by simp [Value.ownBlock] at h⟩
theorem Own.ext (h : Own e sz el w ok v zs) (he : Ext D w w1) (h1 : ∀ g, v.ownBlock = some g → ¬ D g) (h2 : ∀ k, k < w.heap.size → ok k → ¬ D k) : Own e sz el w1 ok v zs :=
  ⟨h.row.ext he h1, fun z hz => (h.el z hz).ext he h2, h.apart⟩
theorem Own.ext0 (h : Own e sz el w ok v zs) (he : Ext No w w1) : Own e sz el w1 ok v zs := h.ext he (fun _ _ h => h) fun _ _ _ h => h
theorem Own.mono (h : Own e sz el w ok v zs) (hk : ∀ k, k < w.heap.size → ok k → ok' k) (ha : ∀ k, ok' k → v.ownBlock ≠ some k) : Own e sz el w ok' v zs := ⟨h.row, fun z hz => (h.el z hz).mono hk, ha⟩
/-- As a list that is read. -/
theorem Row.rrow (hr : Row w e sz v chs) : RRow w sz v chs := by
  obtain ⟨A, c, hv, h1, h2⟩ := hr.slice
  refine ⟨A, c, hv, h1, h2, hr.1, fun i j ch u hi hj => ?_⟩
  obtain ⟨g', cap', hg', hc⟩ := hr.cell hi hj
  rw [hv] at hg'
  cases hg'
  exact ⟨_, rfl, by rw [add_lit, Nat.zero_add]; exact hc⟩
theorem Own.reads (h : Own e sz el w ok v zs) : Rd sz el w (fun k => ok k ∨ v.ownBlock = some k) v zs :=
  ⟨(h.row.foot.mono fun _ _ hk => .inr hk).imp fun _ hw => hw.rrow, fun z hz => (h.el z hz).mono fun _ _ hk => .inl hk⟩
theorem Own.len (h : Own e sz el w ok v zs) : zs.length ≤ maxLen := by have := h.row.len; simpa using this
theorem Own.slice (h : Own e sz el w ok v zs) : ∃ A c, v = .slice A zs.length c ∧ zs.length ≤ c ∧ c ≤ maxLen := by simpa using h.row.slice
theorem Own.take (h : Own e sz el w ok v zs) {A : Option Addr} {m c : Nat} (hv : v = .slice A m c) {i : Nat} (hi : i ≤ zs.length) : Own e sz el w ok (.slice A i c) (zs.take i) :=
  ⟨by rw [List.map_take]; exact h.row.take hv (by simpa using hi), fun z hz => h.el z (List.mem_of_mem_take hz), fun k hk => by have := h.apart k hk; rw [hv] at this; cases A with | none => simp [Value.ownBlock] | some ad => simpa [Value.ownBlock] using this⟩
end

/-! ### Appends -/
/-- What an append to a row of one's own leaves. -/
structure Apd (w w' : World) (v v' : Value) : Prop where
  ext : Ext (fun k => v.ownBlock = some k) w w'
  at_ : v'.ownBlock = v.ownBlock ∨ v'.ownBlock = some w.heap.size
theorem run_apd {P : Program} {t : TypeId} {z : Value} {bytes : Nat} {ty : TypeId} [ha : AI P t e z sz bytes] (hsz : 0 < sz) (hr : Row w e sz v chs) {a : Addr} {c : Nat} {news : List (List Value)} (hl : ∀ ch ∈ news, ch.length = sz)
    (hn : ∀ j u, news.flatten[j]? = some u → w.cell? (a.add j) = some u) (h1 : ∀ ch ∈ news, ∀ u ∈ ch, u.oneCell' = true) (hb : (chs.length + news.length) * bytes ≤ 140737488355328) (h63 : chs.length + news.length ≤ maxLen) :
    ∃ v' w', (Builtin.append_ #[t, t] ty #[v, .slice (some a) news.length c]).run P w = .ok v' w' ∧ Row w' e sz v' (chs ++ news) ∧ Apd w w' v v' := by
  obtain ⟨i, hi, hz, hs, hby⟩ := info_of ha.info
  obtain ⟨v', w', h2, h3, h4, _, h6⟩ := run_append_own_at (P := P) (w := w) 0 t ty e i z sz bytes ha.und hi hz hs hby ha.zs hsz v chs.length chs.flatten hr.2 a news.length c news.flatten (flatten_len news sz hl) hn
    (fun u hu => by obtain ⟨ch, hc, hu⟩ := List.mem_flatten.1 hu; exact h1 ch hc u hu) h63 hb (Nat.zero_le _)
  refine ⟨v', w', h2, ⟨fun ch hc => ?_, ?_⟩, Ext.of_grown h4 fun k hk => hk, h6⟩
  · rcases List.mem_append.1 hc with hc | hc
    · exact hr.1 ch hc
    · exact hl ch hc
  · rw [List.length_append, List.flatten_append]; exact h3
end

section
variable {α : Type} {el : World → List Value → α → Prop} {e sz : Nat} {w w1 w' : World} {ok okx : Nat → Prop} {v v' : Value} {zs : List (List Value × α)} {D : Nat → Prop}
/-- A row of one's own behind an append of one element. -/
theorem Own.append (h : Own e sz el w ok v zs) {c : List Value} {x : α} (hrow : Row w' e sz v' (zs.map (·.1) ++ [c])) (ha : Apd w w' v v') (hx : Foot (fun w => el w c x) w okx) (hxa : ∀ k, k < w.heap.size → okx k → v.ownBlock ≠ some k) :
    Own e sz el w' (fun k => (ok k ∨ okx k) ∧ k < w.heap.size ∧ v'.ownBlock ≠ some k) v' (zs ++ [(c, x)]) := by
  have key : ∀ k, k < w.heap.size → v.ownBlock ≠ some k → v'.ownBlock ≠ some k := fun k hk hn => by
    rcases ha.at_ with h1 | h1 <;> rw [h1]
    · exact hn
    · intro he; injection he with he; omega
  refine ⟨by simpa using hrow, fun z hz => ?_, fun k hk => hk.2.2⟩
  rcases List.mem_append.1 hz with hz | hz
  · refine ((h.el z hz).old ha.ext fun k hk ho => h.apart k ho).mono fun k _ hk => ⟨.inl hk.1, hk.2, key k hk.2 (h.apart k hk.1)⟩
  · simp at hz
    subst hz
    exact (hx.old ha.ext fun k hk ho => hxa k hk ho).mono fun k _ hk => ⟨.inr hk.1, hk.2, key k hk.2 (hxa k hk.2 hk.1)⟩
/-- A row that was made since w. -/
structure New (e sz : Nat) (el : World → List Value → α → Prop) (w w' : World) (v : Value) (zs : List (List Value × α)) : Prop where
  own : Own e sz el w' (fun k => w.heap.size ≤ k ∧ v.ownBlock ≠ some k) v zs
  new : ∀ g, v.ownBlock = some g → w.heap.size ≤ g
theorem New.nil (e sz : Nat) (el : World → List Value → α → Prop) (w w' : World) : New e sz el w w' (.slice none 0 0) [] := ⟨Own.nil _ _ _ _ _, fun g h => by simp [Value.ownBlock] at h⟩
theorem New.ext (h : New e sz el w w1 v zs) (he : Ext D w1 w') (hD : ∀ k, k < w1.heap.size → D k → k < w.heap.size) : New e sz el w w' v zs :=
  ⟨h.own.ext he (fun g hg hd => by have := h.new g hg; have := hD g (h.own.row.lt hg) hd; omega) fun k hk ho hd => by have := hD k hk hd; omega, h.new⟩
theorem New.ext0 (h : New e sz el w w1 v zs) (he : Ext No w1 w') : New e sz el w w' v zs := h.ext he fun _ _ h => h.elim
theorem New.elder (h : New e sz el w w1 v zs) {w0 : World} (hs : w0.heap.size ≤ w.heap.size) : New e sz el w0 w1 v zs := ⟨h.own.mono (fun _ _ hk => ⟨Nat.le_trans hs hk.1, hk.2⟩) fun _ hk => hk.2, fun g hg => Nat.le_trans hs (h.new g hg)⟩
theorem New.reads (h : New e sz el w w1 v zs) : Rd sz el w1 (fun k => w.heap.size ≤ k) v zs := h.own.reads.mono fun k _ hk => by rcases hk with hk | hk; exact hk.1; exact h.new k hk
theorem New.append {w2 w3 : World} (h : New e sz el w w1 v zs) (he : Ext No w1 w2) {c : List Value} {x : α} (hrow : Row w3 e sz v' (zs.map (·.1) ++ [c])) (ha : Apd w2 w3 v v') (hx : Foot (fun w => el w c x) w2 (fun k => w1.heap.size ≤ k)) (hs : w.heap.size ≤ w1.heap.size) : New e sz el w w3 v' (zs ++ [(c, x)]) := by
  have hlt : ∀ g, v.ownBlock = some g → g < w1.heap.size := fun g hg => h.own.row.lt hg
  refine ⟨((h.own.ext0 he).append hrow ha hx fun k _ hk hv => by have := hlt k hv; omega).mono (fun k _ hk => ⟨?_, hk.2.2⟩) fun k hk => hk.2, fun g hg => ?_⟩
  · rcases hk.1 with h1 | h1
    · exact h1.1
    · omega
  · rcases ha.at_ with h1 | h1 <;> rw [h1] at hg
    · exact h.new g hg
    · injection hg with hg; have := he.size; omega
end

section
variable {α : Type} {P : Program} {f n : Nat} {R : Ending → World → Prop} {k : List Item} {e : Env} {w w' w0 : World} {a : Act} {C C' : World → Prop} {D ok : Nat → Prop} {H : List Blk}
variable {ops : Array Oper} {rest : List Oper} {ty t : TypeId} {pos : String} {aft : Array Edge} {d el sz bytes : Nat} {v : Value} {x y : Operand} {chs : List (List Value)} {dst : Option Tmp} {gd : Option (Nat × Bool)}
theorem run_append {a : Act} {v' : Value} (ha : Fits n e a) {y2 : Value} (hx : opv e x = some v) (hy : opv e y = some y2) (h : (Builtin.append_ #[t, t] ty #[v, y2]).run P w = .ok v' w') :
    (execOp a.eval ⟨dst, .call { callee := .builtin .append, args := #[x, y], argTypes := #[t, t] }, ty, pos, aft, gd⟩).run P w = .ok (.value v') w' := by
  simp [execOp, resolve, invoke, builtin, ha.eval hx, ha.eval hy, h]
/-! ### Slices that are written out -/
theorem foldl_set : ∀ (l : List Value) (i off : Nat) (cs : Array Value), off + i + l.length ≤ cs.size →
    ((l.zipIdx i).foldl (fun cs (x : Value × Nat) => cs.setIfInBounds (off + x.2) x.1) cs).toList = cs.toList.take (off + i) ++ l ++ cs.toList.drop (off + i + l.length)
  | [], i, off, cs, h => by simp
  | x :: r, i, off, cs, h => by
    simp only [List.length_cons] at h
    rw [List.zipIdx_cons, List.foldl_cons]
    rw [foldl_set r (i + 1) off _ (by simp; omega)]
    simp only [Array.toList_setIfInBounds, List.length_cons]
    have h1 : off + i < cs.toList.length := by rw [Array.length_toList]; omega
    rw [show off + (i + 1) = (off + i) + 1 by omega, List.take_succ_eq_append_getElem (by rw [List.length_set]; exact h1), List.getElem_set_self, List.take_set_of_le (Nat.le_refl _), List.drop_set_of_lt (by omega)]
    simp [List.append_assoc]
    congr 1; omega
theorem fill_one {size : Nat} {l : List Value} {v : Value} {cs : Array Value} (hv : v.cells = l.toArray) (hl : l.length = size) (hc : cs.size = size) : Instr.fill (fun i => some (i * size, size)) cs [(0, v)] = some l.toArray := by
  have h := foldl_set l 0 0 cs (by omega)
  simp only [Nat.zero_add, List.take_zero, List.nil_append] at h
  rw [List.drop_eq_nil_of_le (by simp; omega), List.append_nil] at h
  have h2 : (l.zipIdx.foldl (fun cs (x : Value × Nat) => cs.setIfInBounds x.2 x.1) cs) = l.toArray := by
    apply Array.toList_inj.1
    simpa using h
  simp [Instr.fill, hv, hl, hc, h2]
/-- []T{} -/
theorem JL.bslice0 [hs : SI P t el sz] (hd : Nat.blt d n = true) (hk : ∀ b, JL P f n R (Cls w0 D (⟨b, [], el⟩ :: H)) ops rest k ((d, .slice (some ⟨b, 0, none⟩) 0 0) :: e)) :
    JL P f n R (Cls w0 D H) ops (⟨some d, .buildSlice t 0 #[], ty, pos, aft, none⟩ :: rest) k e := by
  refine JL.x (X := Nat) (vx := fun b => .slice (some ⟨b, 0, none⟩) 0 0) (Cx := fun b => Cls w0 D (⟨b, [], el⟩ :: H)) (fun a w ha hw => ⟨w.heap.size, w.alloc (.cells ([] : List Value).toArray el), ?_, hw.alloc [] el⟩) hd hk
  have h0 : (Array.map (fun _ => (default : Value)) (Array.range 0)) = #[] := by simp [Array.range]
  simp [execOp, Instr.buildSlice, Instr.fill, newRow, run_underlying hs.und, hs.sizeOf, h0]
theorem run_bslice1 {ag : Bool} {zv v : Value} {l : List Value} [hs : SI P t el sz] [ht : TI P el ag sz zv] (hsz : 0 < sz) (h24 : sz ≤ 1000) (hv : v.cells = l.toArray) (hl : l.length = sz) (w : World) :
    (Instr.buildSlice t 1 #[(0, v)]).run P w = .ok (.slice (some ⟨w.heap.size, 0, none⟩) 1 1) (w.alloc (.cells l.toArray el)) := by
  have hf := fun (cs : Array Value) (hc : cs.size = sz) => fill_one (size := sz) hv hl hc
  have h0 : ¬ (sz > 2 ^ 24) := by omega
  have h1 : ¬ (sz = 0) := by omega
  simp only [Instr.buildSlice, run_underlying hs.und, hs.sizeOf, ht.zero, Sem.run_bind, Result.andThen_ok, Nat.one_mul, h0, h1, if_false, Sem.run_pure]
  rw [hf _ (by simp)]
  simp [newRow]
/-- []T{x} -/
theorem JL.bslice1 {ag : Bool} {zv v : Value} {l : List Value} [hs : SI P t el sz] [ht : TI P el ag sz zv] (hx : opv e x = some v) (hv : v.cells = l.toArray) (hl : l.length = sz) (hsz : Nat.blt 0 sz = true) (h24 : Nat.ble sz 1000 = true) (hd : Nat.blt d n = true)
    (hk : ∀ b, JL P f n R (Cls w0 D (⟨b, l, el⟩ :: H)) ops rest k ((d, .slice (some ⟨b, 0, none⟩) 1 1) :: e)) :
    JL P f n R (Cls w0 D H) ops (⟨some d, .buildSlice t 1 #[(0, x)], ty, pos, aft, none⟩ :: rest) k e := by
  refine JL.x (X := Nat) (vx := fun b => .slice (some ⟨b, 0, none⟩) 1 1) (Cx := fun b => Cls w0 D (⟨b, l, el⟩ :: H)) (fun a w ha hw => ⟨w.heap.size, w.alloc (.cells l.toArray el), ?_, hw.alloc l el⟩) hd hk
  have := run_bslice1 (P := P) (t := t) (el := el) (zv := zv) (by simpa using hsz) (by simpa using h24) hv hl w
  simp [execOp, ha.eval hx, this]
/-- A known block as a row of one's own. -/
theorem Row.of_blk {b : Nat} {cs : List Value} (h : BlkIn w ⟨b, cs, el⟩) {chs : List (List Value)} {c : Nat} (hc : cs = chs.flatten) (hs : ∀ ch ∈ chs, ch.length = sz) (hl : chs.length = c) (hm : c ≤ maxLen) : Row w el sz (.slice (some ⟨b, 0, none⟩) c c) chs := by
  subst hl
  refine ⟨hs, flatten_len chs sz hs, .inr ⟨b, chs.length, cs.toArray, rfl, Nat.zero_le _, h, Nat.le_refl _, hm, ?_, ?_⟩⟩
  · simp [hc, flatten_len chs sz hs]
  · simp [hc]; rw [List.take_of_length_le (by rw [flatten_len chs sz hs]; omega)]
/-- The cells of a known block, as news. -/
theorem BlkIn.news {b : Nat} {cs : List Value} {t : TypeId} (h : BlkIn w ⟨b, cs, t⟩) : ∀ j u, cs[j]? = some u → w.cell? ((⟨b, 0, none⟩ : Addr).add j) = some u := fun j u hu => by
  rw [add_lit, Nat.zero_add, cell_of_row w b j _ t (0, 0) h]; simpa using hu

/-- An append to a row of one's own, at the world at hand. -/
theorem GL.append {z : Value} [ha : AI P t el z sz bytes] (hx : opv e x = some v) {ad : Addr} {c m : Nat} (hy : opv e y = some (.slice (some ad) m c)) (hsz : 0 < sz) (hr : Row w el sz v chs) (news : List (List Value)) (hm : news.length = m) (hl : ∀ ch ∈ news, ch.length = sz)
    (hn : ∀ j u, news.flatten[j]? = some u → w.cell? (ad.add j) = some u) (h1 : ∀ ch ∈ news, ∀ u ∈ ch, u.oneCell' = true) (hb : (chs.length + news.length) * bytes ≤ 140737488355328) (h63 : chs.length + news.length ≤ maxLen) (hd : Nat.blt d n = true)
    (hk : ∀ v' w', Row w' el sz v' (chs ++ news) → Apd w w' v v' → GL P f n R ops rest k ((d, v') :: e) w') :
    GL P f n R ops (⟨some d, .call { callee := .builtin .append, args := #[x, y], argTypes := #[t, t] }, ty, pos, aft, none⟩ :: rest) k e w := by
  intro a hf
  subst hm
  obtain ⟨v', w', h2, h3, h4⟩ := run_apd (P := P) (ty := ty) (t := t) hsz hr hl hn h1 hb h63 (a := ad) (c := c)
  exact wpList_val rfl (run_append hf hx hy h2) (hk v' w' h3 h4 _ (hf.put (by simpa using hd) v'))
/-- .. of one element that was written out. -/
theorem GL.append1 {z : Value} [ha : AI P t el z sz bytes] (hx : opv e x = some v) {b bt : Nat} {l : List Value} (hy : opv e y = some (.slice (some ⟨b, 0, none⟩) 1 1)) (hr : Row w el sz v chs) (hb : BlkIn w ⟨b, l, bt⟩) (hsz : Nat.blt 0 sz = true) (hl : l.length = sz) (h1 : ∀ u ∈ l, u.oneCell' = true)
    (hn : chs.length ≤ 1000000000) (hby : Nat.ble bytes 1000 = true) (hd : Nat.blt d n = true) (hk : ∀ v' w', Row w' el sz v' (chs ++ [l]) → Apd w w' v v' → GL P f n R ops rest k ((d, v') :: e) w') :
    GL P f n R ops (⟨some d, .call { callee := .builtin .append, args := #[x, y], argTypes := #[t, t] }, ty, pos, aft, none⟩ :: rest) k e w := by
  have hby' : bytes ≤ 1000 := by simpa using hby
  refine GL.append hx hy (by simpa using hsz) hr [l] rfl (by simpa using hl) (by simpa using hb.news) (by simpa using h1) ?_ ?_ hd hk
  · have := Nat.mul_le_mul (show chs.length + 1 ≤ 1000000001 by omega) hby'
    simp only [List.length_cons, List.length_nil, Nat.zero_add]; omega
  · simp [maxLen]; omega
end
end Go.Proofs.Ytmkpbbdocndfbaa
