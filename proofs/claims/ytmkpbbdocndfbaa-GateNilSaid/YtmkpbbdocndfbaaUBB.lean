/- Layer 1 (sat) and its reference: what each function computes. -/
import Derived.Test.YtmkpbbdocndfbaaUBA
import Derived.Test.YtmkpbbdocndfbaaUFacts
namespace Go.Proofs.Ytmkpbbdocndfbaa
open Go.RowKit Go.Proofs
attribute [local irreducible] Yl JL J G GL GA GQ DR

/-! ### The plain functions -/
/-- A tick, cut. -/
def cut (n : Int) : Int := min (max n 0) 4611686018427387904
def sadd (a b : Int) : Int := min (cut a + cut b) 4611686018427387904
def ssub (a b : Int) : Int := max (cut a - cut b) 0
def smul (a b : Int) : Int := min (cut a * cut b) 4611686018427387904
theorem cut_in (n : Int) : 0 ≤ cut n ∧ cut n ≤ 4611686018427387904 := by unfold cut; omega
theorem cut_id {n : Int} (h0 : 0 ≤ n) (h1 : n ≤ 4611686018427387904) : cut n = n := by unfold cut; omega
theorem sadd_in (a b : Int) : 0 ≤ sadd a b ∧ sadd a b ≤ 4611686018427387904 := by unfold sadd; have := cut_in a; have := cut_in b; omega
theorem ssub_in (a b : Int) : 0 ≤ ssub a b ∧ ssub a b ≤ 4611686018427387904 := by unfold ssub; have := cut_in a; have := cut_in b; omega
theorem smul_in (a b : Int) : 0 ≤ smul a b ∧ smul a b ≤ 4611686018427387904 := by
  unfold smul
  have h : 0 ≤ cut a * cut b := Int.mul_nonneg (cut_in a).1 (cut_in b).1
  omega
theorem ret_eq {k : IntKind} {a b : Int} (h : a = b) : Ending.returned (.int k a) = .returned (.int k b) := by rw [h]

theorem cut_spec (n : Int) (w : World) : Calls Try.prog 125 #[.int .i64 n] w fun e w' => e = .returned (.int .i64 (cut n)) ∧ Ext No w w' := by
  refine Calls.of_G1 Try.func125 rfl Try.ntmps125 rfl ?_
  refine J.at (C := Cls w No []) ?_ (Cls.start _ _)
  repeat (first | (apply JL.y; (first | (apply Y_move; rfl) | (apply Y_assign; rfl) | (apply Y_min; rfl; rfl) | (apply Y_max; rfl; rfl)); rfl) | refine J.seq ?_ | refine J.region ?_ | refine JL.nil ?_)
  exact J.ret1 Try.func125 Try.results125 (RV.tm rfl) fun w' hw => ⟨rfl, hw.ext⟩
theorem rcut_spec (n : Int) (w : World) : Calls Try.prog 133 #[.int .i64 n] w fun e w' => e = .returned (.int .i64 (cut n)) ∧ Ext No w w' := by
  refine Calls.of_G1 Try.func133 rfl Try.ntmps133 rfl ?_
  refine J.at (C := Cls w No []) ?_ (Cls.start _ _)
  repeat (first | (apply JL.y; (first | (apply Y_move; rfl) | (apply Y_assign; rfl) | (apply Y_lss; rfl; rfl)); rfl) | refine J.seq ?_ | refine J.region ?_ | refine JL.nil ?_)
  refine J.cond_d rfl (fun h => ?_) (fun h => ?_)
  · repeat (first | (apply JL.y; (apply Y_assign; rfl); rfl) | refine J.seq ?_ | refine J.region ?_ | refine JL.nil ?_)
    exact J.ret1 Try.func133 Try.results133 (RV.tm rfl) fun w' hw => ⟨ret_eq (by unfold cut; omega), hw.ext⟩
  repeat (first | (apply JL.y; (first | (apply Y_move; rfl) | (apply Y_gtr; rfl; rfl)); rfl) | refine J.seq ?_ | refine J.region ?_ | refine JL.nil ?_ | refine J.skip ?_)
  refine J.cond_d rfl (fun h => ?_) (fun h => ?_)
  · repeat (first | (apply JL.y; (apply Y_assign; rfl); rfl) | refine J.seq ?_ | refine J.region ?_ | refine JL.nil ?_)
    exact J.ret1 Try.func133 Try.results133 (RV.tm rfl) fun w' hw => ⟨ret_eq (by unfold cut; omega), hw.ext⟩
  repeat (first | (apply JL.y; (first | (apply Y_move; rfl) | (apply Y_assign; rfl)); rfl) | refine J.seq ?_ | refine J.region ?_ | refine JL.nil ?_ | refine J.skip ?_)
  exact J.ret1 Try.func133 Try.results133 (RV.tm rfl) fun w' hw => ⟨ret_eq (by unfold cut; omega), hw.ext⟩
theorem add_spec (a b : Int) (w : World) : Calls Try.prog 126 #[.int .i64 a, .int .i64 b] w fun e w' => e = .returned (.int .i64 (sadd a b)) ∧ Ext No w w' := by
  refine Calls.of_G2 Try.func126 rfl Try.ntmps126 rfl ?_
  refine J.at (C := Cls w No []) ?_ (Cls.start _ _)
  have ha := cut_in a
  have hb := cut_in b
  repeat (first | (apply JL.y; (first | (apply Y_move; rfl) | (apply Y_assign; rfl) | (apply Y_add; rfl; rfl; omega) | (apply Y_sub; rfl; rfl; omega) | (apply Y_min; rfl; rfl)); rfl) | refine J.seq ?_ | refine J.region ?_ | refine JL.nil ?_ | (apply JL.callq; rfl; rfl; (intro wc hwc; first | exact cut_spec _ _)))
  exact J.ret1 Try.func126 Try.results126 (RV.tm rfl) fun w' hw => ⟨ret_eq (by unfold sadd; omega), hw.ext⟩
theorem radd_spec (a b : Int) (w : World) : Calls Try.prog 130 #[.int .i64 a, .int .i64 b] w fun e w' => e = .returned (.int .i64 (sadd a b)) ∧ Ext No w w' := by
  refine Calls.of_G2 Try.func130 rfl Try.ntmps130 rfl ?_
  refine J.at (C := Cls w No []) ?_ (Cls.start _ _)
  have ha := cut_in a
  have hb := cut_in b
  repeat (first | (apply JL.y; (first | (apply Y_move; rfl) | (apply Y_assign; rfl) | (apply Y_gtr; rfl; rfl) | (apply Y_sub; rfl; rfl; omega)); rfl) | refine J.seq ?_ | refine J.region ?_ | refine JL.nil ?_ | (apply JL.callq; rfl; rfl; (intro wc hwc; first | exact rcut_spec _ _)))
  refine J.cond_d rfl (fun h => ?_) (fun h => ?_)
  · repeat (first | (apply JL.y; (apply Y_assign; rfl); rfl) | refine J.seq ?_ | refine J.region ?_ | refine JL.nil ?_)
    exact J.ret1 Try.func130 Try.results130 (RV.tm rfl) fun w' hw => ⟨ret_eq (by unfold sadd; omega), hw.ext⟩
  repeat (first | (apply JL.y; (first | (apply Y_move; rfl) | (apply Y_assign; rfl) | (apply Y_add; rfl; rfl; omega)); rfl) | refine J.seq ?_ | refine J.region ?_ | refine JL.nil ?_ | refine J.skip ?_)
  exact J.ret1 Try.func130 Try.results130 (RV.tm rfl) fun w' hw => ⟨ret_eq (by unfold sadd; omega), hw.ext⟩
theorem sub_spec (a b : Int) (w : World) : Calls Try.prog 161 #[.int .i64 a, .int .i64 b] w fun e w' => e = .returned (.int .i64 (ssub a b)) ∧ Ext No w w' := by
  refine Calls.of_G2 Try.func161 rfl Try.ntmps161 rfl ?_
  refine J.at (C := Cls w No []) ?_ (Cls.start _ _)
  have ha := cut_in a
  have hb := cut_in b
  repeat (first | (apply JL.y; (first | (apply Y_move; rfl) | (apply Y_assign; rfl) | (apply Y_sub; rfl; rfl; omega)); rfl) | refine J.seq ?_ | refine J.region ?_ | refine JL.nil ?_ | (apply JL.callq; rfl; rfl; (intro wc hwc; first | exact cut_spec _ _)))
  exact J.ret1 Try.func161 Try.results161 (RV.tm rfl) fun w' hw => ⟨ret_eq (by unfold ssub cut; omega), hw.ext⟩
theorem late_spec (a b : Int) (w : World) : Calls Try.prog 108 #[.int .i64 a, .int .i64 b] w fun e w' => e = .returned (.bool (decide (cut b ≤ cut a))) ∧ Ext No w w' := by
  refine Calls.of_G2 Try.func108 rfl Try.ntmps108 rfl ?_
  refine J.at (C := Cls w No []) ?_ (Cls.start _ _)
  repeat (first | (apply JL.y; (first | (apply Y_move; rfl) | (apply Y_assign; rfl) | (apply Y_geq; rfl; rfl)); rfl) | refine J.seq ?_ | refine J.region ?_ | refine JL.nil ?_ | (apply JL.callq; rfl; rfl; (intro wc hwc; first | exact cut_spec _ _)))
  exact J.ret1 Try.func108 Try.results108 (RV.tm rfl) fun w' hw => ⟨rfl, hw.ext⟩
end Go.Proofs.Ytmkpbbdocndfbaa
/- Messages in memory; copies and comparisons of them. -/
namespace Go.Proofs.Ytmkpbbdocndfbaa
open Go.RowKit Go.Proofs
attribute [local irreducible] Yl JL J G GL GA GQ DR

/-! ### Numbers -/
def ints (xs : List Int) : List (List Value) := xs.map fun x => [.int .i64 x]
def RInts (w : World) (v : Value) (xs : List Int) : Prop := RRow w 1 v (ints xs)
theorem ints_len (xs : List Int) : (ints xs).length = xs.length := by simp [ints]
theorem ints_at {xs : List Int} {i : Nat} {x : Int} (h : xs[i]? = some x) : (ints xs)[i]? = some [.int .i64 x] := by simp [ints, h]
theorem ints_flat (xs : List Int) : (ints xs).flatten = xs.map fun x => .int .i64 x := by
  induction xs with
  | nil => rfl
  | cons x r ih => simp only [ints, List.map_cons, List.flatten_cons] at ih ⊢; rw [ih]; rfl
theorem RInts.slice {w : World} {v : Value} {xs : List Int} (h : RInts w v xs) : ∃ A c, v = .slice A xs.length c ∧ xs.length ≤ c ∧ c ≤ maxLen := by
  have := RRow.slice h; rwa [ints_len] at this
theorem RInts.lds {w : World} {ok : Nat → Prop} {ad : Addr} {m c : Nat} {xs : List Int} (h : Foot (fun w => RInts w (.slice (some ad) m c) xs) w ok) {i : Nat} {x : Int} (hi : xs[i]? = some x) : Foot (Lds Try.prog 3 (ad.add (i * 1)) (.int .i64 x)) w ok :=
  h.imp fun w hw => by
    obtain ⟨ad', h2, h3⟩ := RRow.cell hw (j := 0) (ints_at hi) rfl
    cases h2
    exact lds_one (by simpa using h3)
theorem RInts.base {w : World} {v : Value} {xs : List Int} (h : RInts w v xs) (hn : 0 < xs.length) : ∃ ad c, v = .slice (some ad) xs.length c := by
  have := RRow.some h (by omega) (by rwa [ints_len]); rwa [ints_len] at this
/-- What a new row of numbers is. -/
theorem Row.ints_foot {w : World} {e : Nat} {v : Value} {xs : List Int} (h : Row w e 1 v (ints xs)) : Foot (fun w => RInts w v xs) w (fun k => v.ownBlock = some k) := h.foot.imp fun _ hw => hw.rrow

theorem take_snoc {α : Type} {l : List α} {i : Nat} {x : α} (h : l[i]? = some x) : l.take (i + 1) = l.take i ++ [x] := by
  rw [List.take_add_one, h]; rfl

theorem RInts.news {w : World} {ad : Addr} {m c : Nat} {xs : List Int} (h : RInts w (.slice (some ad) m c) xs) : ∀ j u, (ints xs).flatten[j]? = some u → w.cell? (ad.add j) = some u := fun j u hu => by
  rw [ints_flat, List.getElem?_map] at hu
  cases hx : xs[j]? with
  | none => simp [hx] at hu
  | some x =>
    simp [hx] at hu
    subst hu
    obtain ⟨ad', h2, h3⟩ := RRow.cell h (j := 0) (ints_at hx) rfl
    cases h2
    simpa using h3
theorem ints_size (xs : List Int) : ∀ ch ∈ ints xs, ch.length = 1 := by simp [ints]
theorem ints_one (xs : List Int) : ∀ ch ∈ ints xs, ∀ u ∈ ch, u.oneCell' = true := by simp [ints, Value.oneCell']
theorem RInts.of_none {w : World} {m c : Nat} {xs : List Int} (h : RInts w (.slice none m c) xs) : xs = [] := by
  cases xs with
  | nil => rfl
  | cons x r =>
    obtain ⟨ad, c, h⟩ := RInts.base h (by simp)
    cases h
theorem Row.one {w : World} {e sz : Nat} {v : Value} {chs : List (List Value)} (h : Row w e sz v chs) : v.oneCell' = true := by
  obtain ⟨A, c, rfl, _⟩ := h.slice; rfl

/-- slices.Clone of numbers. -/
theorem cloneInts_spec {w : World} {ok : Nat → Prop} {v : Value} {xs : List Int} (h : Foot (fun w => RInts w v xs) w ok) (hb : xs.length ≤ 1000000) :
    Calls Try.prog 115 #[v] w fun e w' => ∃ r, e = .returned r ∧ Ext No w w' ∧ Foot (fun w => RInts w r xs) w' (fun k => w.heap.size ≤ k) ∧ r.oneCell' = true ∧ Row w' 3 1 r (ints xs) ∧ (∀ k, r.ownBlock = some k → w.heap.size ≤ k) := by
  obtain ⟨A, c, rfl, hc, hm⟩ := h.now.slice
  refine Calls.of_G1 Try.func115 rfl Try.ntmps115 rfl ?_
  refine J.at (C := Cls w No []) ?_ (Cls.start _ _)
  cases A with
  | none =>
    have := h.now.of_none
    subst this
    repeat (first | (apply JL.y; (first | (apply Y_move; rfl) | (apply Y_assign; rfl) | (apply Y_snil; rfl)); rfl) | refine J.seq ?_ | refine J.region ?_ | refine JL.nil ?_)
    apply J.cond_t rfl
    repeat (first | (apply JL.y; (apply Y_assign; rfl); rfl) | refine J.seq ?_ | refine J.region ?_ | refine JL.nil ?_)
    exact J.ret1 Try.func115 Try.results115 (RV.tm rfl) fun w' hw => ⟨_, rfl, hw.ext, Foot.pure fun w => RRow.nil w 1, rfl, Row.nil _ _ _, fun k hk => by simp [Value.ownBlock] at hk⟩
  | some ad =>
    repeat (first | (apply JL.y; (first | (apply Y_move; rfl) | (apply Y_assign; rfl) | (apply Y_snil; rfl)); rfl) | refine J.seq ?_ | refine J.region ?_ | refine JL.nil ?_)
    apply J.cond_f rfl
    repeat (first | (apply JL.y; (apply Y_move; rfl); rfl) | refine J.seq ?_ | refine J.region ?_ | (apply JL.bslice0; rfl; intro _) | refine J.skip ?_)
    refine JL.intro fun w1 hw1 => ?_
    refine GL.append rfl rfl (by decide) (Row.of_blk (chs := []) (hw1.has _ (.head _)) rfl (by simp) rfl (by simp [maxLen])) (ints xs) (ints_len xs) (ints_size xs) (h.at_ hw1.ext fun _ _ _ h => h).news (ints_one xs) (by simp [ints_len]; omega) (by simp [ints_len, maxLen]; omega) rfl fun v' w' hrow hapd => ?_
    have hb1 := (hw1.mine _ (.head _)).resolve_left id
    have hE : Ext No w w' := hw1.ext.then hapd.ext fun k hk hd => by simp [Value.ownBlock] at hd; simp at hb1; omega
    refine GL.of_JL (C := Cls w' No []) (Cls.start _ _) ?_
    repeat (first | (apply JL.y; (apply Y_assign; rfl); rfl) | refine JL.nil ?_)
    refine J.ret1 Try.func115 Try.results115 (RV.tm rfl) fun w2 hw2 => ?_
    have hle := hw1.ext.size
    have hnew : ∀ k, v'.ownBlock = some k → w.heap.size ≤ k := fun k hv => by
      rcases hapd.at_ with h1 | h1 <;> rw [h1] at hv <;> simp [Value.ownBlock] at hv hb1 <;> omega
    exact ⟨_, rfl, hE.trans hw2.ext, ((hrow.ints_foot (xs := xs)).mono fun k hk hv => hnew k hv).ext0 hw2.ext, hrow.one, hrow.ext0 hw2.ext, hnew⟩
theorem RInts.ad {w : World} {A : Option Addr} {m c : Nat} {xs : List Int} (h : RInts w (.slice A m c) xs) {i : Nat} {x : Int} (hi : xs[i]? = some x) : ∃ ad, A = some ad := by
  obtain ⟨ad, h2, _⟩ := RRow.cell h (j := 0) (ints_at hi) rfl
  exact ⟨ad, h2⟩
theorem eq_of_takes {α : Type} {xs ys : List α} {n i : Nat} (hx : xs.length = n) (hy : ys.length = n) (hi : n ≤ i) (h : xs.take i = ys.take i) : xs = ys := by
  rwa [List.take_of_length_le (by omega), List.take_of_length_le (by omega)] at h
theorem ret_bool {a b : Bool} (h : a = b) : Ending.returned (.bool a) = .returned (.bool b) := by rw [h]

/-- slices.Equal of numbers. -/
theorem equalInts_spec {w : World} {ok1 ok2 : Nat → Prop} {v1 v2 : Value} {xs ys : List Int} (h1 : Foot (fun w => RInts w v1 xs) w ok1) (h2 : Foot (fun w => RInts w v2 ys) w ok2) :
    Calls Try.prog 118 #[v1, v2] w fun e w' => e = .returned (.bool (decide (xs = ys))) ∧ Ext No w w' := by
  obtain ⟨A1, c1, rfl, hc1, hm1⟩ := h1.now.slice
  obtain ⟨A2, c2, rfl, hc2, hm2⟩ := h2.now.slice
  refine Calls.of_G2 Try.func118 rfl Try.ntmps118 rfl ?_
  refine J.at (C := Cls w No []) ?_ (Cls.start _ _)
  repeat (first | (apply JL.y; (first | (apply Y_move; rfl) | (apply Y_assign; rfl) | (apply Y_len; rfl) | (apply Y_neq; rfl; rfl)); rfl) | refine J.seq ?_ | refine J.region ?_ | refine JL.nil ?_)
  refine J.cond_d rfl (fun hl => ?_) (fun hl => ?_)
  · repeat (first | (apply JL.y; (apply Y_assign; rfl); rfl) | refine J.seq ?_ | refine J.region ?_ | refine JL.nil ?_)
    exact J.ret1 Try.func118 Try.results118 (RV.tm rfl) fun w' hw => ⟨ret_bool (decide_eq_false fun h => hl (by rw [h])).symm, hw.ext⟩
  have hlen : ys.length = xs.length := by omega
  repeat (first | (apply JL.y; (first | (apply Y_move; rfl) | (apply Y_len; rfl)); rfl) | refine J.seq ?_ | refine J.region ?_ | refine JL.nil ?_ | refine J.skip ?_ | refine J.block ?_)
  refine J.intro fun wl hwl => G.loop (Inv := fun m e wl => ∃ i : Nat, i ≤ xs.length ∧ m = xs.length - i ∧ xs.take i = ys.take i ∧ Ext No w wl ∧ e = [(0, .slice A1 xs.length c1), (1, .slice A2 ys.length c2), (12, .int .i64 xs.length), (13, .int .i64 i)])
    _ _ ⟨0, Nat.zero_le _, rfl, by simp, hwl.ext, rfl⟩ ⟨rfl, rfl, rfl, rfl, trivial⟩ ?_
  rintro m e w1 ⟨i, hi, rfl, htk, hE, rfl⟩ ih
  refine J.at (C := Cls w1 No []) ?_ (Cls.start _ _)
  repeat (first | (apply JL.y; (apply Y_lss; rfl; rfl); rfl) | refine J.seq ?_ | refine J.region ?_ | refine JL.nil ?_)
  refine J.cond_d rfl (fun hlt => ?_) (fun hlt => ?_)
  · have hlt' : i < xs.length := by omega
    have hx : xs[i]? = some xs[i] := List.getElem?_eq_getElem hlt'
    have hy : ys[i]? = some ys[i] := List.getElem?_eq_getElem (by omega)
    obtain ⟨ad1, rfl⟩ := h1.now.ad hx
    obtain ⟨ad2, rfl⟩ := h2.now.ad hy
    have l1 := (RInts.lds h1 hx).ext0 hE
    have l2 := (RInts.lds h2 hy).ext0 hE
    unfold maxLen at hm1 hm2
    repeat (first | (apply JL.y; (first | (apply Y_move; rfl) | (apply Y_assign; rfl)); rfl) | refine J.seq ?_ | refine J.region ?_ | refine JL.nil ?_ | refine J.skip ?_ | refine J.block ?_)
    refine J.draw (S := Cls _ _ _) [] #[false, false, false, false, false, false, false, false, false] rfl rfl (fun w hw => hw.drew) (fun w hS => ?_)
    (apply DR.pure 0 #[true, false, false, false, false, false, false, false, false]; rfl; kernel_rfl; (apply Y_move; rfl); rfl)
    (apply DR.pure 1 #[true, true, false, false, false, false, false, false, false]; rfl; kernel_rfl; (apply Y_move; rfl); rfl)
    (apply DR.pure 2 #[true, true, true, false, false, false, false, false, false]; rfl; kernel_rfl; (apply Y_indexAddr; rfl; rfl; omega); rfl)
    (apply DR.take 3 #[true, true, true, true, false, false, false, false, false]; rfl; kernel_rfl; exact Y_loadP rfl fun w hw => l1.at_ hw.ext fun _ _ _ h => h; rfl; exact hS)
    (apply DR.pure 4 #[true, true, true, true, true, false, false, false, false]; rfl; kernel_rfl; (apply Y_move; rfl); rfl)
    (apply DR.pure 5 #[true, true, true, true, true, true, false, false, false]; rfl; kernel_rfl; (apply Y_move; rfl); rfl)
    (apply DR.pure 6 #[true, true, true, true, true, true, true, false, false]; rfl; kernel_rfl; (apply Y_indexAddr; rfl; rfl; omega); rfl)
    (apply DR.take 7 #[true, true, true, true, true, true, true, true, false]; rfl; kernel_rfl; exact Y_loadP rfl fun w hw => l2.at_ hw.ext fun _ _ _ h => h; rfl; exact hS)
    (apply DR.pure 8 #[true, true, true, true, true, true, true, true, true]; rfl; kernel_rfl; (apply Y_neq; rfl; rfl); rfl)
    refine DR.done (by kernel_rfl) ?_
    refine J.at (C := Cls _ _ _) ?_ hS
    refine J.cond_d rfl (fun hne => ?_) (fun hne => ?_)
    · repeat (first | (apply JL.y; (apply Y_assign; rfl); rfl) | refine J.seq ?_ | refine J.region ?_ | refine JL.nil ?_)
      exact J.ret1 Try.func118 Try.results118 (RV.tm rfl) fun w' hw => ⟨ret_bool (decide_eq_false fun h => hne (by subst h; rfl)).symm, hE.trans hw.ext⟩
    · repeat (first | (apply JL.y; (first | (apply Y_move; rfl) | (apply Y_add; rfl; rfl; omega)); rfl) | refine J.region ?_ | refine JL.nil ?_ | refine J.skip ?_ | refine J.inBlock ?_)
      refine J.intro fun w2 hw2 => ih (xs.length - (i + 1)) (by omega) _ _ w2 ?_ ⟨i + 1, hlt', rfl, ?_, hE.trans hw2.ext, rfl⟩
      · exact ⟨rfl, rfl, rfl, rfl, trivial⟩
      · have he : xs[i] = ys[i] := by omega
        rw [take_snoc hx, take_snoc hy, htk, he]
  · repeat (first | (apply JL.y; (apply Y_assign; rfl); rfl) | refine J.seq ?_ | refine J.region ?_ | refine JL.nil ?_ | (apply J.exit; rfl))
    exact J.ret1 Try.func118 Try.results118 (RV.tm rfl) fun w' hw => ⟨ret_bool (decide_eq_true (eq_of_takes rfl hlen (by omega) htk)).symm, hE.trans hw.ext⟩
/-- empennageref01.Same. -/
theorem sameInts_spec {w : World} {ok1 ok2 : Nat → Prop} {v1 v2 : Value} {xs ys : List Int} (h1 : Foot (fun w => RInts w v1 xs) w ok1) (h2 : Foot (fun w => RInts w v2 ys) w ok2) :
    Calls Try.prog 80 #[v1, v2] w fun e w' => e = .returned (.bool (decide (xs = ys))) ∧ Ext No w w' := by
  obtain ⟨A1, c1, rfl, hc1, hm1⟩ := h1.now.slice
  obtain ⟨A2, c2, rfl, hc2, hm2⟩ := h2.now.slice
  refine Calls.of_G2 Try.func80 rfl Try.ntmps80 rfl ?_
  refine J.at (C := Cls w No []) ?_ (Cls.start _ _)
  repeat (first | (apply JL.y; (first | (apply Y_move; rfl) | (apply Y_assign; rfl) | (apply Y_len; rfl) | (apply Y_neq; rfl; rfl)); rfl) | refine J.seq ?_ | refine J.region ?_ | refine JL.nil ?_)
  refine J.cond_d rfl (fun hl => ?_) (fun hl => ?_)
  · repeat (first | (apply JL.y; (apply Y_assign; rfl); rfl) | refine J.seq ?_ | refine J.region ?_ | refine JL.nil ?_)
    exact J.ret1 Try.func80 Try.results80 (RV.tm rfl) fun w' hw => ⟨ret_bool (decide_eq_false fun h => hl (by rw [h])).symm, hw.ext⟩
  have hlen : ys.length = xs.length := by omega
  repeat (first | (apply JL.y; (apply Y_assign; rfl); rfl) | refine J.seq ?_ | refine J.region ?_ | refine JL.nil ?_ | refine J.skip ?_ | refine J.block ?_)
  refine J.intro fun wl hwl => G.loop (Inv := fun m e wl => ∃ i : Nat, i ≤ xs.length ∧ m = xs.length - i ∧ xs.take i = ys.take i ∧ Ext No w wl ∧ e = [(0, .slice A1 xs.length c1), (1, .slice A2 ys.length c2), (5, .int .i64 i)])
    _ _ ⟨0, Nat.zero_le _, rfl, by simp, hwl.ext, rfl⟩ ⟨rfl, rfl, rfl, trivial⟩ ?_
  rintro m e w1 ⟨i, hi, rfl, htk, hE, rfl⟩ ih
  refine J.at (C := Cls w1 No []) ?_ (Cls.start _ _)
  repeat (first | (apply JL.y; (first | (apply Y_move; rfl) | (apply Y_len; rfl) | (apply Y_lss; rfl; rfl)); rfl) | refine J.seq ?_ | refine J.region ?_ | refine JL.nil ?_)
  refine J.cond_d rfl (fun hlt => ?_) (fun hlt => ?_)
  · have hlt' : i < xs.length := by omega
    have hx : xs[i]? = some xs[i] := List.getElem?_eq_getElem hlt'
    have hy : ys[i]? = some ys[i] := List.getElem?_eq_getElem (by omega)
    obtain ⟨ad1, rfl⟩ := h1.now.ad hx
    obtain ⟨ad2, rfl⟩ := h2.now.ad hy
    have l1 := (RInts.lds h1 hx).ext0 hE
    have l2 := (RInts.lds h2 hy).ext0 hE
    unfold maxLen at hm1 hm2
    repeat (first | refine J.seq ?_ | refine J.skip ?_ | refine J.block ?_)
    refine J.draw (S := Cls _ _ _) [] #[false, false, false, false, false, false, false, false, false] rfl rfl (fun w hw => hw.drew) (fun w hS => ?_)
    (apply DR.pure 0 #[true, false, false, false, false, false, false, false, false]; rfl; kernel_rfl; (apply Y_move; rfl); rfl)
    (apply DR.pure 1 #[true, true, false, false, false, false, false, false, false]; rfl; kernel_rfl; (apply Y_move; rfl); rfl)
    (apply DR.pure 2 #[true, true, true, false, false, false, false, false, false]; rfl; kernel_rfl; (apply Y_indexAddr; rfl; rfl; omega); rfl)
    (apply DR.take 3 #[true, true, true, true, false, false, false, false, false]; rfl; kernel_rfl; exact Y_loadP rfl fun w hw => l1.at_ hw.ext fun _ _ _ h => h; rfl; exact hS)
    (apply DR.pure 4 #[true, true, true, true, true, false, false, false, false]; rfl; kernel_rfl; (apply Y_move; rfl); rfl)
    (apply DR.pure 5 #[true, true, true, true, true, true, false, false, false]; rfl; kernel_rfl; (apply Y_move; rfl); rfl)
    (apply DR.pure 6 #[true, true, true, true, true, true, true, false, false]; rfl; kernel_rfl; (apply Y_indexAddr; rfl; rfl; omega); rfl)
    (apply DR.take 7 #[true, true, true, true, true, true, true, true, false]; rfl; kernel_rfl; exact Y_loadP rfl fun w hw => l2.at_ hw.ext fun _ _ _ h => h; rfl; exact hS)
    (apply DR.pure 8 #[true, true, true, true, true, true, true, true, true]; rfl; kernel_rfl; (apply Y_neq; rfl; rfl); rfl)
    refine DR.done (by kernel_rfl) ?_
    refine J.at (C := Cls _ _ _) ?_ hS
    refine J.cond_d rfl (fun hne => ?_) (fun hne => ?_)
    · repeat (first | (apply JL.y; (apply Y_assign; rfl); rfl) | refine J.seq ?_ | refine J.region ?_ | refine JL.nil ?_)
      exact J.ret1 Try.func80 Try.results80 (RV.tm rfl) fun w' hw => ⟨ret_bool (decide_eq_false fun h => hne (by subst h; rfl)).symm, hE.trans hw.ext⟩
    · repeat (first | (apply JL.y; (first | (apply Y_move; rfl) | (apply Y_assign; rfl) | (apply Y_add; rfl; rfl; omega)); rfl) | refine J.region ?_ | refine JL.nil ?_ | refine J.skip ?_ | refine J.inBlock ?_)
      refine J.intro fun w2 hw2 => ih (xs.length - (i + 1)) (by omega) _ _ w2 ?_ ⟨i + 1, hlt', rfl, ?_, hE.trans hw2.ext, rfl⟩
      · exact ⟨rfl, rfl, rfl, trivial⟩
      · have he : xs[i] = ys[i] := by omega
        rw [take_snoc hx, take_snoc hy, htk, he]
  · repeat (first | (apply JL.y; (apply Y_assign; rfl); rfl) | refine J.seq ?_ | refine J.region ?_ | refine JL.nil ?_ | (apply J.exit; rfl))
    exact J.ret1 Try.func80 Try.results80 (RV.tm rfl) fun w' hw => ⟨ret_bool (decide_eq_true (eq_of_takes rfl hlen (by omega) htk)).symm, hE.trans hw.ext⟩

/-! ### Messages -/
structure Msg where
  words : List Int
  lane : Int
  stamp : Int
  late : Int
  seq : Int
  deriving DecidableEq
theorem Msg.eq_of {m1 m2 : Msg} (h1 : m1.words = m2.words) (h2 : m1.lane = m2.lane) (h3 : m1.stamp = m2.stamp) (h4 : m1.late = m2.late) (h5 : m1.seq = m2.seq) : m1 = m2 := by
  cases m1; cases m2; simp_all
/-- A message's cells, its words' slice at hand. -/
def msgC (ws : Value) (m : Msg) : List Value := [ws, .int .i64 m.lane, .int .i64 m.stamp, .int .i64 m.late, .int .i64 m.seq]
def MsgC (w : World) (cs : List Value) (m : Msg) : Prop := ∃ ws, cs = msgC ws m ∧ RInts w ws m.words ∧ m.words.length ≤ 8
/-- The value v reads as the message m. -/
def RMsg (w : World) (v : Value) (m : Msg) : Prop := ∃ ws, v = .agg (msgC ws m).toArray ∧ RInts w ws m.words ∧ m.words.length ≤ 8
theorem RInts.one {w : World} {v : Value} {xs : List Int} (h : RInts w v xs) : v.oneCell' = true := by
  obtain ⟨A, c, rfl, _⟩ := h.slice; rfl
theorem RMsg.open_ {w : World} {ok : Nat → Prop} {v : Value} {m : Msg} (h : Foot (fun w => RMsg w v m) w ok) : ∃ ws, v = .agg (msgC ws m).toArray ∧ Foot (fun w => RInts w ws m.words) w ok ∧ m.words.length ≤ 8 ∧ ws.oneCell' = true := by
  obtain ⟨ws, hv, hi, hl⟩ := h.now
  refine ⟨ws, hv, h.imp fun w' hw => ?_, hl, hi.one⟩
  obtain ⟨ws', hv', hi', _⟩ := hw
  rw [hv] at hv'
  simp [msgC] at hv'
  subst hv'
  exact hi'
theorem MsgC.open_ {w : World} {ok : Nat → Prop} {cs : List Value} {m : Msg} (h : Foot (fun w => MsgC w cs m) w ok) : ∃ ws, cs = msgC ws m ∧ Foot (fun w => RInts w ws m.words) w ok ∧ m.words.length ≤ 8 ∧ ws.oneCell' = true := by
  obtain ⟨ws, hv, hi, hl⟩ := h.now
  refine ⟨ws, hv, h.imp fun w' hw => ?_, hl, hi.one⟩
  obtain ⟨ws', hv', hi', _⟩ := hw
  rw [hv] at hv'
  simp [msgC] at hv'
  subst hv'
  exact hi'
theorem MsgC.msg {w : World} {cs : List Value} {m : Msg} (h : MsgC w cs m) : RMsg w (.agg cs.toArray) m := by
  obtain ⟨ws, rfl, h1, h2⟩ := h
  exact ⟨ws, rfl, h1, h2⟩
theorem msgC_one {ws : Value} {m : Msg} (h : ws.oneCell' = true) : ∀ u ∈ msgC ws m, u.oneCell' = true := by
  intro u hu
  simp only [msgC, List.mem_cons, List.not_mem_nil, or_false] at hu
  rcases hu with rfl | rfl | rfl | rfl | rfl <;> first | exact h | rfl
theorem RMsg.mk {w : World} {ok : Nat → Prop} {ws : Value} {m : Msg} (h : Foot (fun w => RInts w ws m.words) w ok) (hl : m.words.length ≤ 8) : Foot (fun w => RMsg w (.agg (msgC ws m).toArray) m) w ok := h.imp fun _ hw => ⟨ws, rfl, hw, hl⟩
theorem MsgC.mk {w : World} {ok : Nat → Prop} {ws : Value} {m : Msg} (h : Foot (fun w => RInts w ws m.words) w ok) (hl : m.words.length ≤ 8) : Foot (fun w => MsgC w (msgC ws m) m) w ok := h.imp fun _ hw => ⟨ws, rfl, hw, hl⟩

/-- empennageref10.One. -/
theorem one_spec {w : World} {ok1 ok2 : Nat → Prop} {v1 v2 : Value} {m1 m2 : Msg} (h1 : Foot (fun w => RMsg w v1 m1) w ok1) (h2 : Foot (fun w => RMsg w v2 m2) w ok2) :
    Calls Try.prog 35 #[v1, v2] w fun e w' => e = .returned (.bool (decide (m1 = m2))) ∧ Ext No w w' := by
  obtain ⟨ws1, rfl, hw1, hl1, ho1⟩ := RMsg.open_ h1
  obtain ⟨ws2, rfl, hw2, hl2, ho2⟩ := RMsg.open_ h2
  refine Calls.of_G2 Try.func35 rfl Try.ntmps35 rfl ?_
  refine J.at (C := Cls w No []) ?_ (Cls.start _ _)
  unfold msgC
  repeat (first | (apply JL.y; (first | (apply Y_move; rfl) | (apply Y_assign; rfl) | (apply Y_fieldAddr; rfl; rfl) | (apply Y_load1 0; rfl; rfl; rfl; exact inferInstance) | (apply Y_load1 1; rfl; rfl; rfl; exact inferInstance)); rfl) | refine J.seq ?_ | refine J.region ?_ | refine JL.nil ?_ | (apply JL.callq; rfl; rfl; (intro wc hwc; first | exact sameInts_spec (hw1.ext0 hwc.ext) (hw2.ext0 hwc.ext))) | (apply JL.box; rfl; rfl; rfl; intro _))
  by_cases h1 : m1.words = m2.words
  case neg =>
    rw [decide_eq_false h1]
    repeat (first | (apply JL.y; (first | (apply Y_move; rfl) | (apply Y_assign; rfl) | (apply Y_pick_f; rfl; rfl)); rfl) | refine JL.nil ?_ | (apply JL.guard_no; rfl; rfl; rfl; rfl; rfl))
    exact J.ret1 Try.func35 Try.results35 (RV.tm rfl) fun w' hw => ⟨ret_bool (decide_eq_false fun h => h1 (by rw [h])).symm, hw.ext⟩
  rw [decide_eq_true h1]
  repeat (first | (apply JL.y; (first | (apply Y_move; rfl) | (apply Y_fieldAddr; rfl; rfl) | (apply Y_load1 0; rfl; rfl; rfl; exact inferInstance) | (apply Y_load1 1; rfl; rfl; rfl; exact inferInstance) | (apply Y_eql; rfl; rfl) | (apply Y_pick_t; rfl; rfl)); rfl) | (apply JL.guard_yes; rfl; rfl; rfl))
  by_cases h2 : m1.lane = m2.lane
  case neg =>
    rw [decide_eq_false h2]
    repeat (first | (apply JL.y; (first | (apply Y_move; rfl) | (apply Y_assign; rfl) | (apply Y_pick_f; rfl; rfl)); rfl) | refine JL.nil ?_ | (apply JL.guard_no; rfl; rfl; rfl; rfl; rfl))
    exact J.ret1 Try.func35 Try.results35 (RV.tm rfl) fun w' hw => ⟨ret_bool (decide_eq_false fun h => h2 (by rw [h])).symm, hw.ext⟩
  rw [decide_eq_true h2]
  repeat (first | (apply JL.y; (first | (apply Y_move; rfl) | (apply Y_fieldAddr; rfl; rfl) | (apply Y_load1 0; rfl; rfl; rfl; exact inferInstance) | (apply Y_load1 1; rfl; rfl; rfl; exact inferInstance) | (apply Y_eql; rfl; rfl) | (apply Y_pick_t; rfl; rfl)); rfl) | (apply JL.guard_yes; rfl; rfl; rfl))
  by_cases h3 : m1.stamp = m2.stamp
  case neg =>
    rw [decide_eq_false h3]
    repeat (first | (apply JL.y; (first | (apply Y_move; rfl) | (apply Y_assign; rfl) | (apply Y_pick_f; rfl; rfl)); rfl) | refine JL.nil ?_ | (apply JL.guard_no; rfl; rfl; rfl; rfl; rfl))
    exact J.ret1 Try.func35 Try.results35 (RV.tm rfl) fun w' hw => ⟨ret_bool (decide_eq_false fun h => h3 (by rw [h])).symm, hw.ext⟩
  rw [decide_eq_true h3]
  repeat (first | (apply JL.y; (first | (apply Y_move; rfl) | (apply Y_fieldAddr; rfl; rfl) | (apply Y_load1 0; rfl; rfl; rfl; exact inferInstance) | (apply Y_load1 1; rfl; rfl; rfl; exact inferInstance) | (apply Y_eql; rfl; rfl) | (apply Y_pick_t; rfl; rfl)); rfl) | (apply JL.guard_yes; rfl; rfl; rfl))
  by_cases h4 : m1.late = m2.late
  case neg =>
    rw [decide_eq_false h4]
    repeat (first | (apply JL.y; (first | (apply Y_assign; rfl) | (apply Y_pick_f; rfl; rfl)); rfl) | refine JL.nil ?_ | (apply JL.guard_no; rfl; rfl; rfl; rfl; rfl))
    exact J.ret1 Try.func35 Try.results35 (RV.tm rfl) fun w' hw => ⟨ret_bool (decide_eq_false fun h => h4 (by rw [h])).symm, hw.ext⟩
  rw [decide_eq_true h4]
  repeat (first | (apply JL.y; (first | (apply Y_assign; rfl) | (apply Y_fieldAddr; rfl; rfl) | (apply Y_load1 0; rfl; rfl; rfl; exact inferInstance) | (apply Y_load1 1; rfl; rfl; rfl; exact inferInstance) | (apply Y_eql; rfl; rfl) | (apply Y_pick_t; rfl; rfl)); rfl) | refine JL.nil ?_ | (apply JL.guard_yes; rfl; rfl; rfl))
  by_cases h5 : m1.seq = m2.seq
  case neg =>
    rw [decide_eq_false h5]
    skip
    exact J.ret1 Try.func35 Try.results35 (RV.tm rfl) fun w' hw => ⟨ret_bool (decide_eq_false fun h => h5 (by rw [h])).symm, hw.ext⟩
  rw [decide_eq_true h5]
  skip
  exact J.ret1 Try.func35 Try.results35 (RV.tm rfl) fun w' hw => ⟨ret_bool (decide_eq_true (Msg.eq_of h1 h2 h3 h4 h5)).symm, hw.ext⟩
/-- The test that lane.Same hands over. -/
theorem sameC_spec {w : World} {ok1 ok2 : Nat → Prop} {v1 v2 : Value} {m1 m2 : Msg} (h1 : Foot (fun w => RMsg w v1 m1) w ok1) (h2 : Foot (fun w => RMsg w v2 m2) w ok2) :
    Calls Try.prog 117 #[v1, v2] w fun e w' => e = .returned (.bool (decide (m1 = m2))) ∧ Ext No w w' := by
  obtain ⟨ws1, rfl, hw1, hl1, ho1⟩ := RMsg.open_ h1
  obtain ⟨ws2, rfl, hw2, hl2, ho2⟩ := RMsg.open_ h2
  refine Calls.of_G2 Try.func117 rfl Try.ntmps117 rfl ?_
  refine J.at (C := Cls w No []) ?_ (Cls.start _ _)
  unfold msgC
  repeat (first | (apply JL.y; (first | (apply Y_move; rfl) | (apply Y_assign; rfl) | (apply Y_fieldAddr; rfl; rfl) | (apply Y_load1 0; rfl; rfl; rfl; exact inferInstance) | (apply Y_load1 1; rfl; rfl; rfl; exact inferInstance)); rfl) | refine J.seq ?_ | refine J.region ?_ | refine JL.nil ?_ | (apply JL.callq; rfl; rfl; (intro wc hwc; first | exact equalInts_spec (hw1.ext0 hwc.ext) (hw2.ext0 hwc.ext))) | (apply JL.box; rfl; rfl; rfl; intro _))
  by_cases h1 : m1.words = m2.words
  case neg =>
    rw [decide_eq_false h1]
    repeat (first | (apply JL.y; (first | (apply Y_move; rfl) | (apply Y_assign; rfl) | (apply Y_pick_f; rfl; rfl)); rfl) | refine JL.nil ?_ | (apply JL.guard_no; rfl; rfl; rfl; rfl; rfl))
    exact J.ret1 Try.func117 Try.results117 (RV.tm rfl) fun w' hw => ⟨ret_bool (decide_eq_false fun h => h1 (by rw [h])).symm, hw.ext⟩
  rw [decide_eq_true h1]
  repeat (first | (apply JL.y; (first | (apply Y_move; rfl) | (apply Y_fieldAddr; rfl; rfl) | (apply Y_load1 0; rfl; rfl; rfl; exact inferInstance) | (apply Y_load1 1; rfl; rfl; rfl; exact inferInstance) | (apply Y_eql; rfl; rfl) | (apply Y_pick_t; rfl; rfl)); rfl) | (apply JL.guard_yes; rfl; rfl; rfl))
  by_cases h2 : m1.lane = m2.lane
  case neg =>
    rw [decide_eq_false h2]
    repeat (first | (apply JL.y; (first | (apply Y_move; rfl) | (apply Y_assign; rfl) | (apply Y_pick_f; rfl; rfl)); rfl) | refine JL.nil ?_ | (apply JL.guard_no; rfl; rfl; rfl; rfl; rfl))
    exact J.ret1 Try.func117 Try.results117 (RV.tm rfl) fun w' hw => ⟨ret_bool (decide_eq_false fun h => h2 (by rw [h])).symm, hw.ext⟩
  rw [decide_eq_true h2]
  repeat (first | (apply JL.y; (first | (apply Y_move; rfl) | (apply Y_fieldAddr; rfl; rfl) | (apply Y_load1 0; rfl; rfl; rfl; exact inferInstance) | (apply Y_load1 1; rfl; rfl; rfl; exact inferInstance) | (apply Y_eql; rfl; rfl) | (apply Y_pick_t; rfl; rfl)); rfl) | (apply JL.guard_yes; rfl; rfl; rfl))
  by_cases h3 : m1.stamp = m2.stamp
  case neg =>
    rw [decide_eq_false h3]
    repeat (first | (apply JL.y; (first | (apply Y_move; rfl) | (apply Y_assign; rfl) | (apply Y_pick_f; rfl; rfl)); rfl) | refine JL.nil ?_ | (apply JL.guard_no; rfl; rfl; rfl; rfl; rfl))
    exact J.ret1 Try.func117 Try.results117 (RV.tm rfl) fun w' hw => ⟨ret_bool (decide_eq_false fun h => h3 (by rw [h])).symm, hw.ext⟩
  rw [decide_eq_true h3]
  repeat (first | (apply JL.y; (first | (apply Y_move; rfl) | (apply Y_fieldAddr; rfl; rfl) | (apply Y_load1 0; rfl; rfl; rfl; exact inferInstance) | (apply Y_load1 1; rfl; rfl; rfl; exact inferInstance) | (apply Y_eql; rfl; rfl) | (apply Y_pick_t; rfl; rfl)); rfl) | (apply JL.guard_yes; rfl; rfl; rfl))
  by_cases h4 : m1.late = m2.late
  case neg =>
    rw [decide_eq_false h4]
    repeat (first | (apply JL.y; (first | (apply Y_assign; rfl) | (apply Y_pick_f; rfl; rfl)); rfl) | refine JL.nil ?_ | (apply JL.guard_no; rfl; rfl; rfl; rfl; rfl))
    exact J.ret1 Try.func117 Try.results117 (RV.tm rfl) fun w' hw => ⟨ret_bool (decide_eq_false fun h => h4 (by rw [h])).symm, hw.ext⟩
  rw [decide_eq_true h4]
  repeat (first | (apply JL.y; (first | (apply Y_assign; rfl) | (apply Y_fieldAddr; rfl; rfl) | (apply Y_load1 0; rfl; rfl; rfl; exact inferInstance) | (apply Y_load1 1; rfl; rfl; rfl; exact inferInstance) | (apply Y_eql; rfl; rfl) | (apply Y_pick_t; rfl; rfl)); rfl) | refine JL.nil ?_ | (apply JL.guard_yes; rfl; rfl; rfl))
  by_cases h5 : m1.seq = m2.seq
  case neg =>
    rw [decide_eq_false h5]
    skip
    exact J.ret1 Try.func117 Try.results117 (RV.tm rfl) fun w' hw => ⟨ret_bool (decide_eq_false fun h => h5 (by rw [h])).symm, hw.ext⟩
  rw [decide_eq_true h5]
  skip
  exact J.ret1 Try.func117 Try.results117 (RV.tm rfl) fun w' hw => ⟨ret_bool (decide_eq_true (Msg.eq_of h1 h2 h3 h4 h5)).symm, hw.ext⟩
end Go.Proofs.Ytmkpbbdocndfbaa
/- Lists of messages: comparisons, copies. -/
namespace Go.Proofs.Ytmkpbbdocndfbaa
open Go.RowKit Go.Proofs
attribute [local irreducible] Yl JL J G GL GA GQ DR

theorem map_take_eq {α β : Type} (f : α → β) {l : List α} {n i : Nat} (hl : l.length = n) (hi : n ≤ i) : (l.map f).take i = l.map f := List.take_of_length_le (by simp; omega)

/-- empennageref10.Same. -/
theorem same_spec {w : World} {ok1 ok2 : Nat → Prop} {v1 v2 : Value} {xs ys : List (List Value × Msg)} (h1 : Rd 5 MsgC w ok1 v1 xs) (h2 : Rd 5 MsgC w ok2 v2 ys) :
    Calls Try.prog 37 #[v1, v2] w fun e w' => e = .returned (.bool (decide (xs.map (·.2) = ys.map (·.2)))) ∧ Ext No w w' := by
  obtain ⟨A1, c1, rfl, hc1, hm1⟩ := h1.slice
  obtain ⟨A2, c2, rfl, hc2, hm2⟩ := h2.slice
  refine Calls.of_G2 Try.func37 rfl Try.ntmps37 rfl ?_
  refine J.at (C := Cls w No []) ?_ (Cls.start _ _)
  repeat (first | (apply JL.y; (first | (apply Y_move; rfl) | (apply Y_assign; rfl) | (apply Y_len; rfl) | (apply Y_neq; rfl; rfl)); rfl) | refine J.seq ?_ | refine J.region ?_ | refine JL.nil ?_)
  refine J.cond_d rfl (fun hl => ?_) (fun hl => ?_)
  · repeat (first | (apply JL.y; (apply Y_assign; rfl); rfl) | refine J.seq ?_ | refine J.region ?_ | refine JL.nil ?_)
    exact J.ret1 Try.func37 Try.results37 (RV.tm rfl) fun w' hw => ⟨ret_bool (decide_eq_false fun h => hl (by have := congrArg List.length h; simp at this; omega)).symm, hw.ext⟩
  have hlen : ys.length = xs.length := by omega
  repeat (first | (apply JL.y; (apply Y_assign; rfl); rfl) | refine J.seq ?_ | refine J.region ?_ | refine JL.nil ?_ | refine J.skip ?_ | refine J.block ?_)
  refine J.intro fun wl hwl => G.loop (Inv := fun m e wl => ∃ i : Nat, i ≤ xs.length ∧ m = xs.length - i ∧ (xs.map (·.2)).take i = (ys.map (·.2)).take i ∧ Ext No w wl ∧ e = [(0, .slice A1 xs.length c1), (1, .slice A2 ys.length c2), (5, .int .i64 i)])
    _ _ ⟨0, Nat.zero_le _, rfl, by simp, hwl.ext, rfl⟩ ⟨rfl, rfl, rfl, trivial⟩ ?_
  rintro m e w1 ⟨i, hi, rfl, htk, hE, rfl⟩ ih
  refine J.at (C := Cls w1 No []) ?_ (Cls.start _ _)
  repeat (first | (apply JL.y; (first | (apply Y_move; rfl) | (apply Y_len; rfl) | (apply Y_lss; rfl; rfl)); rfl) | refine J.seq ?_ | refine J.region ?_ | refine JL.nil ?_)
  refine J.cond_d rfl (fun hlt => ?_) (fun hlt => ?_)
  · have hlt' : i < xs.length := by omega
    have hx : xs[i]? = some xs[i] := List.getElem?_eq_getElem hlt'
    have hy : ys[i]? = some ys[i] := List.getElem?_eq_getElem (by omega)
    obtain ⟨ad1, _, e1⟩ := h1.base (by omega) (by omega)
    obtain ⟨ad2, _, e2⟩ := h2.base (by omega) (by omega)
    cases e1
    cases e2
    have l1 := (h1.lds (P := Try.prog) (t := 33) hx).ext0 hE
    have l2 := (h2.lds (P := Try.prog) (t := 33) hy).ext0 hE
    have g1 := ((h1.el _ (List.mem_of_getElem? hx)).imp fun w hw => hw.msg).ext0 hE
    have g2 := ((h2.el _ (List.mem_of_getElem? hy)).imp fun w hw => hw.msg).ext0 hE
    unfold maxLen at hm1 hm2
    repeat (first | refine J.seq ?_ | refine J.skip ?_ | refine J.block ?_)
    refine J.draw (S := Cls _ _ _) [] #[false, false, false, false, false, false, false, false, false, false] rfl rfl (fun w hw => hw.drew) (fun w hS => ?_)
    (apply DR.pure 0 #[true, false, false, false, false, false, false, false, false, false]; rfl; kernel_rfl; (apply Y_move; rfl); rfl)
    (apply DR.pure 1 #[true, true, false, false, false, false, false, false, false, false]; rfl; kernel_rfl; (apply Y_move; rfl); rfl)
    (apply DR.pure 2 #[true, true, true, false, false, false, false, false, false, false]; rfl; kernel_rfl; (apply Y_indexAddr; rfl; rfl; omega); rfl)
    (apply DR.take 3 #[true, true, true, true, false, false, false, false, false, false]; rfl; kernel_rfl; exact Y_loadP rfl fun w hw => l1.at_ hw.ext fun _ _ _ h => h; rfl; exact hS)
    (apply DR.pure 4 #[true, true, true, true, true, false, false, false, false, false]; rfl; kernel_rfl; (apply Y_move; rfl); rfl)
    (apply DR.pure 5 #[true, true, true, true, true, true, false, false, false, false]; rfl; kernel_rfl; (apply Y_move; rfl); rfl)
    (apply DR.pure 6 #[true, true, true, true, true, true, true, false, false, false]; rfl; kernel_rfl; (apply Y_indexAddr; rfl; rfl; omega); rfl)
    (apply DR.take 7 #[true, true, true, true, true, true, true, true, false, false]; rfl; kernel_rfl; exact Y_loadP rfl fun w hw => l2.at_ hw.ext fun _ _ _ h => h; rfl; exact hS)
    refine DR.callq 8 #[true, true, true, true, true, true, true, true, true, false] rfl (by kernel_rfl) rfl rfl rfl (one_spec (g1.ext0 hS.ext) (g2.ext0 hS.ext)) (fun w' hw' => hS.ext0 hw') (fun w hE2 hS => ?_)
    (apply DR.pure 9 #[true, true, true, true, true, true, true, true, true, true]; rfl; kernel_rfl; (apply Y_assign; rfl); rfl)
    refine DR.done (by kernel_rfl) ?_
    refine J.at (C := Cls _ _ _) ?_ hS
    repeat (first | (apply JL.y; (first | (apply Y_move; rfl) | (apply Y_not_d; rfl)); rfl) | refine J.seq ?_ | refine J.region ?_ | refine JL.nil ?_)
    refine J.cond_d rfl (fun hne => ?_) (fun hne => ?_)
    · repeat (first | (apply JL.y; (apply Y_assign; rfl); rfl) | refine J.seq ?_ | refine J.region ?_ | refine JL.nil ?_)
      exact J.ret1 Try.func37 Try.results37 (RV.tm rfl) fun w' hw => ⟨ret_bool (decide_eq_false fun h => hne (by have := congrArg (fun l => l[i]?) h; simpa [hx, hy] using this)).symm, hE.trans hw.ext⟩
    · repeat (first | (apply JL.y; (first | (apply Y_move; rfl) | (apply Y_assign; rfl) | (apply Y_add; rfl; rfl; omega)); rfl) | refine J.region ?_ | refine JL.nil ?_ | refine J.skip ?_ | refine J.inBlock ?_)
      refine J.intro fun w2 hw2 => ih (xs.length - (i + 1)) (by omega) _ _ w2 ?_ ⟨i + 1, hlt', rfl, ?_, hE.trans hw2.ext, rfl⟩
      · exact ⟨rfl, rfl, rfl, trivial⟩
      · have he : xs[i].2 = ys[i].2 := Decidable.of_not_not hne
        have hx' : (xs.map (·.2))[i]? = some xs[i].2 := by simp [hx]
        have hy' : (ys.map (·.2))[i]? = some ys[i].2 := by simp [hy]
        rw [take_snoc hx', take_snoc hy', htk, he]
  · repeat (first | (apply JL.y; (apply Y_assign; rfl); rfl) | refine J.seq ?_ | refine J.region ?_ | refine JL.nil ?_ | (apply J.exit; rfl))
    exact J.ret1 Try.func37 Try.results37 (RV.tm rfl) fun w' hw => ⟨ret_bool (decide_eq_true (by rwa [map_take_eq _ rfl (by omega), map_take_eq _ hlen (by omega)] at htk)).symm, hE.trans hw.ext⟩

/-- slices.EqualFunc by lane.Same's test. -/
theorem equalFunc_spec {w : World} {ok1 ok2 : Nat → Prop} {v1 v2 : Value} {xs ys : List (List Value × Msg)} (h1 : Rd 5 MsgC w ok1 v1 xs) (h2 : Rd 5 MsgC w ok2 v2 ys) :
    Calls Try.prog 116 #[v1, v2, .func (.func 117) #[] #[]] w fun e w' => e = .returned (.bool (decide (xs.map (·.2) = ys.map (·.2)))) ∧ Ext No w w' := by
  obtain ⟨A1, c1, rfl, hc1, hm1⟩ := h1.slice
  obtain ⟨A2, c2, rfl, hc2, hm2⟩ := h2.slice
  refine Calls.of_G3 Try.func116 rfl Try.ntmps116 rfl ?_
  refine J.at (C := Cls w No []) ?_ (Cls.start _ _)
  repeat (first | (apply JL.y; (first | (apply Y_move; rfl) | (apply Y_assign; rfl) | (apply Y_len; rfl) | (apply Y_neq; rfl; rfl)); rfl) | refine J.seq ?_ | refine J.region ?_ | refine JL.nil ?_)
  refine J.cond_d rfl (fun hl => ?_) (fun hl => ?_)
  · repeat (first | (apply JL.y; (apply Y_assign; rfl); rfl) | refine J.seq ?_ | refine J.region ?_ | refine JL.nil ?_)
    exact J.ret1 Try.func116 Try.results116 (RV.tm rfl) fun w' hw => ⟨ret_bool (decide_eq_false fun h => hl (by have := congrArg List.length h; simp at this; omega)).symm, hw.ext⟩
  have hlen : ys.length = xs.length := by omega
  repeat (first | (apply JL.y; (first | (apply Y_move; rfl) | (apply Y_len; rfl)); rfl) | refine J.seq ?_ | refine J.region ?_ | refine JL.nil ?_ | refine J.skip ?_ | refine J.block ?_)
  refine J.intro fun wl hwl => G.loop (Inv := fun m e wl => ∃ i : Nat, i ≤ xs.length ∧ m = xs.length - i ∧ (xs.map (·.2)).take i = (ys.map (·.2)).take i ∧ Ext No w wl ∧ e = [(1, .slice A2 ys.length c2), (2, .func (.func 117) #[] #[]), (15, .slice A1 xs.length c1), (16, .int .i64 xs.length), (17, .int .i64 i)])
    _ _ ⟨0, Nat.zero_le _, rfl, by simp, hwl.ext, rfl⟩ ⟨rfl, rfl, rfl, rfl, rfl, trivial⟩ ?_
  rintro m e w1 ⟨i, hi, rfl, htk, hE, rfl⟩ ih
  refine J.at (C := Cls w1 No []) ?_ (Cls.start _ _)
  repeat (first | (apply JL.y; (apply Y_lss; rfl; rfl); rfl) | refine J.seq ?_ | refine J.region ?_ | refine JL.nil ?_)
  refine J.cond_d rfl (fun hlt => ?_) (fun hlt => ?_)
  · have hlt' : i < xs.length := by omega
    have hx : xs[i]? = some xs[i] := List.getElem?_eq_getElem hlt'
    have hy : ys[i]? = some ys[i] := List.getElem?_eq_getElem (by omega)
    obtain ⟨ad1, _, e1⟩ := h1.base (by omega) (by omega)
    obtain ⟨ad2, _, e2⟩ := h2.base (by omega) (by omega)
    cases e1
    cases e2
    have l1 := (h1.lds (P := Try.prog) (t := 33) hx).ext0 hE
    have l2 := (h2.lds (P := Try.prog) (t := 33) hy).ext0 hE
    have g1 := ((h1.el _ (List.mem_of_getElem? hx)).imp fun w hw => hw.msg).ext0 hE
    have g2 := ((h2.el _ (List.mem_of_getElem? hy)).imp fun w hw => hw.msg).ext0 hE
    obtain ⟨ws1, hws1, _, _, ho1⟩ := MsgC.open_ (h1.el _ (List.mem_of_getElem? hx))
    obtain ⟨ws2, hws2, _, _, ho2⟩ := MsgC.open_ (h2.el _ (List.mem_of_getElem? hy))
    rw [hws1] at l1 g1
    rw [hws2] at l2 g2
    unfold maxLen at hm1 hm2
    repeat (first | (apply JL.y; (apply Y_move; rfl); rfl) | refine J.seq ?_ | refine J.region ?_ | refine J.skip ?_ | refine J.block ?_)
    apply JL.y (Y_indexAddr rfl rfl (by omega)) rfl
    apply JL.y (Y_loadP rfl fun w hw => l1.at_ hw.ext fun _ _ _ h => h) rfl
    unfold msgC
    repeat (first | (apply JL.y; (first | (apply Y_move; rfl) | (apply Y_assign; rfl)); rfl) | refine J.seq ?_ | refine J.region ?_ | refine JL.nil ?_ | (apply JL.alloc; rfl; rfl; intro _) | (apply JL.store; (apply St_W 0; rfl; rfl; rfl; exact inferInstance; rfl; rfl; (first | (focus (simp [Value.oneCell']; done)) | (simp [Value.oneCell']; assumption) | (simp [Value.oneCell']; exact ⟨by assumption, by assumption⟩)); (first | (focus (simp only [List.set_cons_zero]; done)) | (simp only [List.set_cons_zero]; rfl)))))
    apply JL.y (Y_indexAddr rfl rfl (by omega)) rfl
    apply JL.y (Y_loadP rfl fun w hw => l2.at_ hw.ext fun _ _ _ h => h) rfl
    unfold msgC
    repeat (first | (apply JL.y; (first | (apply Y_move; rfl) | (apply Y_loadW 0; rfl; rfl; exact inferInstance; rfl) | (apply Y_loadW 1; rfl; rfl; exact inferInstance; rfl) | (apply Y_not_d; rfl)); rfl) | refine J.seq ?_ | refine J.region ?_ | refine JL.nil ?_ | (apply JL.callqC; rfl; exact inferInstance; rfl; rfl; (intro wc hwc; first | exact sameC_spec (g1.ext0 hwc.ext) (g2.ext0 hwc.ext))) | (apply JL.alloc; rfl; rfl; intro _) | (apply JL.store; (apply St_W 0; rfl; rfl; rfl; exact inferInstance; rfl; rfl; (first | (focus (simp [Value.oneCell']; done)) | (simp [Value.oneCell']; assumption) | (simp [Value.oneCell']; exact ⟨by assumption, by assumption⟩)); (first | (focus (simp only [List.set_cons_zero]; done)) | (simp only [List.set_cons_zero]; rfl)))))
    refine J.cond_d rfl (fun hne => ?_) (fun hne => ?_)
    · repeat (first | (apply JL.y; (apply Y_assign; rfl); rfl) | refine J.seq ?_ | refine J.region ?_ | refine JL.nil ?_)
      exact J.ret1 Try.func116 Try.results116 (RV.tm rfl) fun w' hw => ⟨ret_bool (decide_eq_false fun h => hne (by have := congrArg (fun l => l[i]?) h; simpa [hx, hy] using this)).symm, hE.trans hw.ext⟩
    · repeat (first | (apply JL.y; (first | (apply Y_move; rfl) | (apply Y_add; rfl; rfl; omega)); rfl) | refine J.region ?_ | refine JL.nil ?_ | refine J.skip ?_ | refine J.inBlock ?_)
      refine J.intro fun w2 hw2 => ih (xs.length - (i + 1)) (by omega) _ _ w2 ?_ ⟨i + 1, hlt', rfl, ?_, hE.trans hw2.ext, rfl⟩
      · exact ⟨rfl, rfl, rfl, rfl, rfl, trivial⟩
      · have he : xs[i].2 = ys[i].2 := Decidable.of_not_not hne
        have hx' : (xs.map (·.2))[i]? = some xs[i].2 := by simp [hx]
        have hy' : (ys.map (·.2))[i]? = some ys[i].2 := by simp [hy]
        rw [take_snoc hx', take_snoc hy', htk, he]
  · repeat (first | (apply JL.y; (apply Y_assign; rfl); rfl) | refine J.seq ?_ | refine J.region ?_ | refine JL.nil ?_ | (apply J.exit; rfl))
    exact J.ret1 Try.func116 Try.results116 (RV.tm rfl) fun w' hw => ⟨ret_bool (decide_eq_true (by rwa [map_take_eq _ rfl (by omega), map_take_eq _ hlen (by omega)] at htk)).symm, hE.trans hw.ext⟩
end Go.Proofs.Ytmkpbbdocndfbaa
/- Copies of messages. -/
namespace Go.Proofs.Ytmkpbbdocndfbaa
open Go.RowKit Go.Proofs
attribute [local irreducible] Yl JL J G GL GA GQ DR

/-- lane.Same. -/
theorem laneSame_spec {w : World} {ok1 ok2 : Nat → Prop} {v1 v2 : Value} {xs ys : List (List Value × Msg)} (h1 : Rd 5 MsgC w ok1 v1 xs) (h2 : Rd 5 MsgC w ok2 v2 ys) :
    Calls Try.prog 47 #[v1, v2] w fun e w' => e = .returned (.bool (decide (xs.map (·.2) = ys.map (·.2)))) ∧ Ext No w w' := by
  refine Calls.of_G2 Try.func47 rfl Try.ntmps47 rfl ?_
  refine J.at (C := Cls w No []) ?_ (Cls.start _ _)
  repeat (first | (apply JL.y; (first | (apply Y_move; rfl) | (apply Y_assign; rfl)); rfl) | refine J.seq ?_ | refine J.region ?_ | refine JL.nil ?_ | (apply JL.callq; rfl; rfl; (intro wc hwc; first | exact equalFunc_spec (h1.ext0 hwc.ext) (h2.ext0 hwc.ext))))
  exact J.ret1 Try.func47 Try.results47 (RV.tm rfl) fun w' hw => ⟨rfl, hw.ext⟩

/-- lane.Clone. -/
theorem clone_spec {w : World} {ok : Nat → Prop} {v : Value} {m : Msg} (h : Foot (fun w => RMsg w v m) w ok) :
    Calls Try.prog 46 #[v] w fun e w' => ∃ r, e = .returned r ∧ ∃ ws, r = .agg (msgC ws m).toArray ∧ Ext No w w' ∧ Foot (fun w => RInts w ws m.words) w' (fun k => w.heap.size ≤ k) ∧ ws.oneCell' = true ∧ m.words.length ≤ 8 ∧ Row w' 3 1 ws (ints m.words) ∧ (∀ k, ws.ownBlock = some k → w.heap.size ≤ k) := by
  obtain ⟨ws, rfl, hw, hl, ho⟩ := RMsg.open_ h
  refine Calls.of_G1 Try.func46 rfl Try.ntmps46 rfl ?_
  refine J.at (C := Cls w No []) ?_ (Cls.start _ _)
  unfold msgC
  repeat (first | (apply JL.y; (first | (apply Y_fieldAddr; rfl; rfl) | (apply Y_load1 1; rfl; rfl; rfl; exact inferInstance)); rfl) | refine J.seq ?_ | refine J.region ?_ | refine JL.nil ?_ | (apply JL.box; rfl; rfl; rfl; intro _) | (apply JL.alloc; rfl; rfl; intro _))
  refine JL.call _ rfl rfl (fun w1 hw1 => cloneInts_spec (hw.ext0 hw1.ext) (by omega)) fun w1 r w2 hw1 ⟨hE, hF, ho2, hrow, hnew⟩ => ?_
  have hc := hw1.ext0 hE
  refine GL.of_JL (C := Cls w2 (Bs _) _) hc.rebase ?_
  repeat (first | (apply JL.y; (first | (apply Y_fieldAddr; rfl; rfl) | (apply Y_loadW 1; rfl; rfl; exact inferInstance; rfl)); rfl) | refine J.seq ?_ | refine J.region ?_ | refine JL.nil ?_ | (apply JL.store; (first | (apply St_1 1; rfl; rfl; exact inferInstance; (first | rfl | assumption); rfl; rfl; (first | (focus (simp only [List.set_cons_zero, List.set_cons_succ]; done)) | (simp only [List.set_cons_zero, List.set_cons_succ]; rfl))) | (apply St_W 0; rfl; rfl; rfl; exact inferInstance; rfl; rfl; (first | (focus (simp [Value.oneCell']; done)) | (simp [Value.oneCell']; assumption) | (simp [Value.oneCell']; exact ⟨by assumption, by assumption⟩)); (first | (focus (simp only [List.set_cons_zero]; done)) | (simp only [List.set_cons_zero]; rfl))))))
  refine J.ret1 Try.func46 Try.results46 (RV.W 0 rfl rfl rfl) fun w3 hw3 => ⟨_, rfl, r, rfl, hc.via hw3.ext, ?_, ho2, hl, hrow.ext hw3.ext fun k hk hb => by have := hw1.bs_lt hb; have := hnew k hk; omega, fun k hk => Nat.le_trans hw1.ext.size (hnew k hk)⟩
  refine (hF.ext hw3.ext fun k hk hle hb => ?_).mono fun k hk hle => Nat.le_trans hw1.ext.size hle
  have := hw1.bs_lt hb
  omega
/-- A message whose words lie in a row of their own. -/
def MsgN (w : World) (cs : List Value) (m : Msg) : Prop := ∃ ws, cs = msgC ws m ∧ Row w 3 1 ws (ints m.words) ∧ m.words.length ≤ 8
theorem MsgN.c {w : World} {cs : List Value} {m : Msg} (h : MsgN w cs m) : MsgC w cs m := by
  obtain ⟨ws, h1, h2, h3⟩ := h
  exact ⟨ws, h1, h2.rrow, h3⟩
theorem New.imp {α : Type} {e sz : Nat} {el el' : World → List Value → α → Prop} {w w' : World} {v : Value} {zs : List (List Value × α)} (h : New e sz el w w' v zs) (hi : ∀ w c x, el w c x → el' w c x) : New e sz el' w w' v zs :=
  ⟨⟨h.own.row, fun z hz => (h.own.el z hz).imp fun _ hw => hi _ _ _ hw, h.own.apart⟩, h.new⟩
/-- lane.clones. -/
theorem clonesN_spec {w : World} {ok : Nat → Prop} {v : Value} {xs : List (List Value × Msg)} (h : Rd 5 MsgC w ok v xs) (hn : xs.length ≤ 1000000) :
    Calls Try.prog 110 #[v] w fun e w' => ∃ r, e = .returned r ∧ Ext No w w' ∧ ∃ zs, New 33 5 MsgN w w' r zs ∧ zs.map (·.2) = xs.map (·.2) := by
  obtain ⟨A, c, rfl, hc, hm⟩ := h.slice
  refine Calls.of_G1 Try.func110 rfl Try.ntmps110 rfl ?_
  refine J.at (C := Cls w No []) ?_ (Cls.start _ _)
  repeat (first | (apply JL.y; (first | (apply Y_move; rfl) | (apply Y_assign; rfl) | (apply Y_len; rfl)); rfl) | refine J.seq ?_ | refine J.region ?_ | refine JL.nil ?_ | refine J.block ?_)
  refine J.intro fun wl hwl => G.loop (Inv := fun m e wl => ∃ (i : Nat) (out : Value) (zs : List (List Value × Msg)), i ≤ xs.length ∧ m = xs.length - i ∧ Ext No w wl ∧ New 33 5 MsgN w wl out zs ∧ zs.map (·.2) = (xs.map (·.2)).take i ∧ e = [(3, out), (6, .slice A xs.length c), (7, .int .i64 xs.length), (8, .int .i64 i)])
    _ _ ⟨0, _, [], Nat.zero_le _, rfl, hwl.ext, New.nil _ _ _ _ _, by simp, rfl⟩ ⟨rfl, rfl, rfl, rfl, trivial⟩ ?_
  rintro m e w1 ⟨i, out, zs, hi, rfl, hE, hN, hz, rfl⟩ ih
  refine J.at (C := Cls w1 No []) ?_ (Cls.start _ _)
  repeat (first | (apply JL.y; (apply Y_lss; rfl; rfl); rfl) | refine J.seq ?_ | refine J.region ?_ | refine JL.nil ?_)
  refine J.cond_d rfl (fun hlt => ?_) (fun hlt => ?_)
  · have hlt' : i < xs.length := by omega
    have hx : xs[i]? = some xs[i] := List.getElem?_eq_getElem hlt'
    obtain ⟨ad, _, e1⟩ := h.base (by omega) (by omega)
    cases e1
    have l1 := (h.lds (P := Try.prog) (t := 33) hx).ext0 hE
    have g1 := ((h.el _ (List.mem_of_getElem? hx)).imp fun w hw => hw.msg).ext0 hE
    obtain ⟨ws, hws, _, hl8, ho⟩ := MsgC.open_ (h.el _ (List.mem_of_getElem? hx))
    rw [hws] at l1 g1
    unfold maxLen at hm
    repeat (first | refine J.seq ?_ | refine J.region ?_ | refine J.skip ?_ | refine J.block ?_)
    apply JL.y (Y_indexAddr rfl rfl (by omega)) rfl
    apply JL.y (Y_loadP rfl fun w hw => l1.at_ hw.ext fun _ _ _ h => h) rfl
    unfold msgC
    repeat (first | (apply JL.y; (first | (apply Y_move; rfl) | (apply Y_loadW 0; rfl; rfl; exact inferInstance; rfl)); rfl) | refine J.region ?_ | refine JL.nil ?_ | (apply JL.alloc; rfl; rfl; intro _) | (apply JL.store; (apply St_W 0; rfl; rfl; rfl; exact inferInstance; rfl; rfl; (first | (focus (simp [Value.oneCell']; done)) | (simp [Value.oneCell']; assumption) | (simp [Value.oneCell']; exact ⟨by assumption, by assumption⟩)); (first | (focus (simp only [List.set_cons_zero]; done)) | (simp only [List.set_cons_zero]; rfl)))))
    refine JL.call _ rfl rfl (fun w2 hw2 => clone_spec (g1.ext0 hw2.ext)) fun w2 r w3 hw2 ⟨ws', hr, hE3, _, ho2, _, hrw, hrn⟩ => ?_
    subst hr
    have hc3 := hw2.ext0 hE3
    refine GL.of_JL (C := Cls w3 (Bs _) _) hc3.rebase ?_
    unfold msgC
    repeat (first | (apply JL.bslice1; rfl; rfl; rfl; rfl; rfl; rfl; intro _))
    refine JL.intro fun w4 hw4 => ?_
    have hE4 : Ext No w1 w4 := hc3.via hw4.ext
    have hzl : zs.length ≤ 1000000 := by have := congrArg List.length hz; simp at this; omega
    refine GL.append1 rfl rfl (hN.own.row.ext0 hE4) (hw4.has _ (.head _)) rfl rfl (msgC_one ho2) (by simp; omega) rfl rfl fun v' w5 hrow hapd => ?_
    have hx4 : Foot (fun w => MsgN w (msgC ws' xs[i].2) xs[i].2) w4 (fun k => w1.heap.size ≤ k) :=
      ((hrw.foot.imp fun w hw => (⟨ws', rfl, hw, hl8⟩ : MsgN w (msgC ws' xs[i].2) xs[i].2)).ext hw4.ext fun k hk hle hb => by have := hw2.bs_lt hb; have := hrn k hle; omega).mono fun k _ hle => Nat.le_trans hw2.ext.size (hrn k hle)
    have hN5 := hN.append hE4 hrow hapd hx4 hE.size
    have hE5 : Ext No w w5 := (hE.trans hE4).then hapd.ext fun k hk hv => by have := hN.new k hv; omega
    refine GL.of_JL (C := Cls w5 No []) (Cls.start _ _) ?_
    repeat (first | (apply JL.y; (first | (apply Y_move; rfl) | (apply Y_assign; rfl) | (apply Y_add; rfl; rfl; omega)); rfl) | refine J.region ?_ | refine JL.nil ?_ | refine J.inBlock ?_)
    refine J.intro fun w6 hw6 => ih (xs.length - (i + 1)) (by omega) _ _ w6 ?_ ⟨i + 1, v', _, hlt', rfl, hE5.trans hw6.ext, hN5.ext0 hw6.ext, ?_, rfl⟩
    · exact ⟨rfl, rfl, rfl, rfl, trivial⟩
    · have hx' : (xs.map (·.2))[i]? = some xs[i].2 := by simp [hx]
      rw [take_snoc hx', List.map_append, hz]; rfl
  · repeat (first | (apply JL.y; (first | (apply Y_move; rfl) | (apply Y_assign; rfl)); rfl) | refine J.seq ?_ | refine J.region ?_ | refine JL.nil ?_ | (apply J.exit; rfl))
    exact J.ret1 Try.func110 Try.results110 (RV.tm rfl) fun w' hw => ⟨_, rfl, hE.trans hw.ext, zs, hN.ext0 hw.ext, by rw [hz, map_take_eq _ rfl (by omega)]⟩
theorem clones_spec {w : World} {ok : Nat → Prop} {v : Value} {xs : List (List Value × Msg)} (h : Rd 5 MsgC w ok v xs) (hn : xs.length ≤ 1000000) :
    Calls Try.prog 110 #[v] w fun e w' => ∃ r, e = .returned r ∧ Ext No w w' ∧ ∃ zs, New 33 5 MsgC w w' r zs ∧ zs.map (·.2) = xs.map (·.2) :=
  (clonesN_spec h hn).mono fun _ _ ⟨r, h1, h2, zs, h3, h4⟩ => ⟨r, h1, h2, zs, h3.imp fun _ _ _ h => h.c, h4⟩
end Go.Proofs.Ytmkpbbdocndfbaa
