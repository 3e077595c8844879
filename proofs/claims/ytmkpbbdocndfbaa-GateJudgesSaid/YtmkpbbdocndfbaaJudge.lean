/- How messages are judged, by the gate and by the document. -/
import Derived.Test.YtmkpbbdocndfbaaBucket
namespace Go.Proofs.Ytmkpbbdocndfbaa
open Go.RowKit Go.Proofs
attribute [local irreducible] Yl JL J G GL GA GQ DR DRA

/-- A channel. -/
structure Ch where
  kind : Int
  from_ : Int
  to : Int
  words : Int
  refresh : Int
  lanes : Int
  depth : Int
  hold : Int
  life : Int
  rate : Int
  cap : Int
def chC (k : Ch) : List Value := [.int .i64 k.kind, .int .i64 k.from_, .int .i64 k.to, .int .i64 k.words, .int .i64 k.refresh, .int .i64 k.lanes, .int .i64 k.depth, .int .i64 k.hold, .int .i64 k.life, .int .i64 k.rate, .int .i64 k.cap]
def odd (n : Int) : Bool := decide (n < 0) || decide (2147483647 < n)
def judge (k : Ch) (mode lane : Int) (ws : List Int) : Int :=
  if ¬ mode = 0 then 5 else if ¬ k.kind = 1 then 4 else if lane < 0 ∨ k.lanes ≤ lane ∨ ws.length = 0 ∨ k.words < ws.length ∨ ws.any odd = true then 3 else 0
theorem judge0 {lane ln wd : Int} {n : Nat} {b : Bool} (h1 : ¬ lane < 0) (h2 : ¬ ln ≤ lane) (h3 : ¬ n = 0) (h4 : ¬ wd < n) (h5 : b = false) : (if lane < 0 ∨ ln ≤ lane ∨ n = 0 ∨ wd < n ∨ b = true then (3 : Int) else 0) = 0 :=
  if_neg (fun h => by rcases h with h | h | h | h | h <;> first | omega | (subst h5; cases h))
/-- The test that Judge hands over. -/
theorem odd_spec (n : Int) (w : World) : Calls Try.prog 121 #[.int .i64 n] w fun e w' => e = .returned (.bool (odd n)) ∧ Ext No w w' := by
  refine Calls.of_G1 Try.func121 rfl Try.ntmps121 rfl ?_
  refine J.at (C := Cls w No []) ?_ (Cls.start _ _)
  repeat (first | (apply JL.y; (first | (apply Y_move; rfl) | (apply Y_assign; rfl) | (apply Y_lss; rfl; rfl)); rfl) | refine J.seq ?_ | refine J.region ?_ | refine JL.nil ?_)
  by_cases h : n < 0
  · rw [decide_eq_true h]
    repeat (first | (apply JL.y; (first | (apply Y_assign; rfl) | (apply Y_pick_t; rfl; rfl)); rfl) | refine JL.nil ?_ | (apply JL.guard_no; rfl; rfl; rfl; rfl; rfl))
    exact J.ret1 Try.func121 Try.results121 (RV.tm rfl) fun w' hw => ⟨by simp [odd, h], hw.ext⟩
  · rw [decide_eq_false h]
    repeat (first | (apply JL.y; (first | (apply Y_move; rfl) | (apply Y_assign; rfl) | (apply Y_gtr; rfl; rfl) | (apply Y_pick_f; rfl; rfl)); rfl) | refine JL.nil ?_ | (apply JL.guard_yes; rfl; rfl; rfl))
    exact J.ret1 Try.func121 Try.results121 (RV.tm rfl) fun w' hw => ⟨by simp [odd, h], hw.ext⟩
theorem any_snoc {xs : List Int} {i : Nat} {x : Int} (h : xs[i]? = some x) (p : Int → Bool) : (xs.take (i + 1)).any p = ((xs.take i).any p || p x) := by rw [take_snoc h]; simp
/-- slices.IndexFunc by that test. -/
theorem indexOdd_spec {w : World} {ok : Nat → Prop} {v : Value} {xs : List Int} (h : Foot (fun w => RInts w v xs) w ok) :
    Calls Try.prog 150 #[v, .func (.func 121) #[] #[]] w fun e w' => ∃ r, e = .returned r ∧ ∃ i : Int, r = .int .i64 i ∧ decide (0 ≤ i) = xs.any odd ∧ Ext No w w' := by
  obtain ⟨A, c, rfl, hc, hm⟩ := h.now.slice
  refine Calls.of_G2 Try.func150 rfl Try.ntmps150 rfl ?_
  refine J.at (C := Cls w No []) ?_ (Cls.start _ _)
  repeat (first | (apply JL.y; (first | (apply Y_move; rfl) | (apply Y_assign; rfl) | (apply Y_len; rfl)); rfl) | refine J.seq ?_ | refine J.region ?_ | refine JL.nil ?_ | refine J.block ?_)
  refine J.intro fun wl hwl => G.loop (Inv := fun m e wl => ∃ i : Nat, i ≤ xs.length ∧ m = xs.length - i ∧ (xs.take i).any odd = false ∧ Ext No w wl ∧ e = [(0, .slice A xs.length c), (1, .func (.func 121) #[] #[]), (7, .int .i64 xs.length), (8, .int .i64 i)])
    _ _ ⟨0, Nat.zero_le _, rfl, by simp, hwl.ext, rfl⟩ ⟨rfl, rfl, rfl, rfl, trivial⟩ ?_
  rintro m e w1 ⟨i, hi, rfl, hno, hE, rfl⟩ ih
  refine J.at (C := Cls w1 No []) ?_ (Cls.start _ _)
  repeat (first | (apply JL.y; (apply Y_lss; rfl; rfl); rfl) | refine J.seq ?_ | refine J.region ?_ | refine JL.nil ?_)
  refine J.cond_d rfl (fun hlt => ?_) (fun hlt => ?_)
  · have hil : i < xs.length := by omega
    have hx : xs[i]? = some xs[i] := List.getElem?_eq_getElem hil
    obtain ⟨ad, rfl⟩ := h.now.ad hx
    have l1 := (RInts.lds h hx).ext0 hE
    unfold maxLen at hm
    repeat (first | (apply JL.y; (first | (apply Y_move; rfl) | (apply Y_assign; rfl)); rfl) | refine J.seq ?_ | refine J.region ?_ | refine JL.nil ?_ | refine J.skip ?_ | refine J.block ?_)
    apply JL.y (Y_indexAddr rfl rfl (by omega)) rfl
    apply JL.y (Y_loadP rfl fun w hw => l1.at_ hw.ext fun _ _ _ h => h) rfl
    repeat (first | refine JL.nil ?_ | (apply JL.callqC; rfl; exact inferInstance; rfl; rfl; (intro wc hwc; first | exact odd_spec _ _)))
    cases ho : odd xs[i] with
    | true =>
      apply J.cond_t rfl
      repeat (first | (apply JL.y; (first | (apply Y_move; rfl) | (apply Y_assign; rfl)); rfl) | refine J.seq ?_ | refine J.region ?_ | refine JL.nil ?_)
      refine J.ret1 Try.func150 Try.results150 (RV.tm rfl) fun w' hw => ⟨_, rfl, (i : Int), rfl, ?_, hE.trans hw.ext⟩
      rw [List.any_eq_true.2 ⟨_, List.getElem_mem hil, ho⟩]
      exact decide_eq_true (by omega)
    | false =>
      apply J.cond_f rfl
      repeat (first | (apply JL.y; (first | (apply Y_move; rfl) | (apply Y_add; rfl; rfl; omega)); rfl) | refine J.region ?_ | refine JL.nil ?_ | refine J.skip ?_ | refine J.inBlock ?_)
      refine J.intro fun w2 hw2 => ih (xs.length - (i + 1)) (by omega) _ _ w2 ?_ ⟨i + 1, hil, rfl, by rw [any_snoc hx, hno, ho]; rfl, hE.trans hw2.ext, rfl⟩
      exact ⟨rfl, rfl, rfl, rfl, trivial⟩
  · repeat (first | (apply JL.y; (apply Y_assign; rfl); rfl) | refine J.seq ?_ | refine J.region ?_ | refine JL.nil ?_ | (apply J.exit; rfl))
    refine J.ret1 Try.func150 Try.results150 (RV.tm rfl) fun w' hw => ⟨_, rfl, (-1 : Int), rfl, ?_, hE.trans hw.ext⟩
    rw [List.take_of_length_le (by omega)] at hno
    rw [hno]; rfl
/-- slices.ContainsFunc by that test. -/
theorem hasOdd_spec {w : World} {ok : Nat → Prop} {v : Value} {xs : List Int} (h : Foot (fun w => RInts w v xs) w ok) :
    Calls Try.prog 122 #[v, .func (.func 121) #[] #[]] w fun e w' => e = .returned (.bool (xs.any odd)) ∧ Ext No w w' := by
  refine Calls.of_G2 Try.func122 rfl Try.ntmps122 rfl ?_
  refine J.at (C := Cls w No []) ?_ (Cls.start _ _)
  repeat (first | (apply JL.y; (first | (apply Y_move; rfl) | (apply Y_assign; rfl)); rfl) | refine J.seq ?_ | refine J.region ?_ | refine JL.nil ?_)
  refine JL.call _ rfl rfl (fun w1 hw1 => indexOdd_spec (h.ext0 hw1.ext)) fun w1 r w2 hw1 ⟨i, hr, hd, hE⟩ => ?_
  subst hr
  have hx := hw1.ext.trans hE
  refine GL.of_JL (C := Cls w2 No []) (Cls.start _ _) ?_
  repeat (first | (apply JL.y; (first | (apply Y_assign; rfl) | (apply Y_geq; rfl; rfl)); rfl) | refine JL.nil ?_)
  exact J.ret1 Try.func122 Try.results122 (RV.tm rfl) fun w' hw => ⟨ret_bool hd, hx.trans hw.ext⟩
set_option maxHeartbeats 1000000 in
/-- gate.Judge. -/
theorem judge_spec {w : World} {ok : Nat → Prop} {v : Value} {xs : List Int} (k : Ch) (mode lane : Int) (h : Foot (fun w => RInts w v xs) w ok) :
    Calls Try.prog 50 #[.agg (chC k).toArray, .int .i64 mode, .int .i64 lane, v] w fun e w' => e = .returned (.int .i64 (judge k mode lane xs)) ∧ Ext No w w' := by
  obtain ⟨A, c, rfl, hc, hm⟩ := h.now.slice
  refine Calls.of_G4 Try.func50 rfl Try.ntmps50 rfl ?_
  refine J.at (C := Cls w No []) ?_ (Cls.start _ _)
  unfold chC
  repeat (first | (apply JL.y; (first | (apply Y_move; rfl) | (apply Y_assign; rfl) | (apply Y_eql; rfl; rfl) | (apply Y_neq; rfl; rfl)); rfl) | refine J.seq ?_ | refine J.region ?_ | refine JL.nil ?_ | (apply JL.box; rfl; rfl; rfl; intro _) | refine J.cond_t rfl ?_ | refine J.block ?_ | (apply J.exit; rfl))
  refine J.cond_d rfl (fun h1 => ?_) (fun h1 => ?_)
  · repeat (first | (apply JL.y; (apply Y_assign; rfl); rfl) | refine J.seq ?_ | refine J.region ?_ | refine JL.nil ?_)
    exact J.ret1 Try.func50 Try.results50 (RV.tm rfl) fun w' hw => ⟨ret_eq (by rw [judge, if_pos h1]), hw.ext⟩
  have e1 : judge k mode lane xs = if ¬ k.kind = 1 then 4 else if lane < 0 ∨ k.lanes ≤ lane ∨ xs.length = 0 ∨ k.words < xs.length ∨ xs.any odd = true then 3 else 0 := by rw [judge, if_neg h1]
  rw [e1]
  repeat (first | (apply JL.y; (first | (apply Y_fieldAddr; rfl; rfl) | (apply Y_load1 0; rfl; rfl; rfl; exact inferInstance) | (apply Y_neq; rfl; rfl)); rfl) | refine J.seq ?_ | refine J.region ?_ | refine JL.nil ?_ | refine J.skip ?_ | refine J.inBlock ?_)
  refine J.cond_d rfl (fun h2 => ?_) (fun h2 => ?_)
  · repeat (first | (apply JL.y; (apply Y_assign; rfl); rfl) | refine J.seq ?_ | refine J.region ?_ | refine JL.nil ?_)
    exact J.ret1 Try.func50 Try.results50 (RV.tm rfl) fun w' hw => ⟨ret_eq (by rw [if_pos h2]), hw.ext⟩
  rw [if_neg h2]
  repeat (first | (apply JL.y; (first | (apply Y_move; rfl) | (apply Y_assign; rfl) | (apply Y_lss; rfl; rfl)); rfl) | refine J.seq ?_ | refine J.region ?_ | refine JL.nil ?_ | refine J.skip ?_ | refine J.inBlock ?_)
  by_cases h3 : lane < 0
  · rw [decide_eq_true h3]
    repeat (first | (apply JL.y; (first | (apply Y_move; rfl) | (apply Y_assign; rfl) | (apply Y_pick_t; rfl; rfl)); rfl) | refine J.seq ?_ | refine J.region ?_ | refine JL.nil ?_ | (apply JL.guard_no; rfl; rfl; rfl; rfl; rfl) | refine J.cond_t rfl ?_)
    exact J.ret1 Try.func50 Try.results50 (RV.tm rfl) fun w' hw => ⟨ret_eq (by rw [if_pos (.inl h3)]), hw.ext⟩
  rw [decide_eq_false h3]
  repeat (first | (apply JL.y; (first | (apply Y_move; rfl) | (apply Y_fieldAddr; rfl; rfl) | (apply Y_load1 0; rfl; rfl; rfl; exact inferInstance) | (apply Y_geq; rfl; rfl) | (apply Y_pick_f; rfl; rfl)); rfl) | (apply JL.guard_yes; rfl; rfl; rfl))
  by_cases h4 : k.lanes ≤ lane
  · rw [decide_eq_true h4]
    repeat (first | (apply JL.y; (first | (apply Y_move; rfl) | (apply Y_assign; rfl) | (apply Y_pick_t; rfl; rfl)); rfl) | refine J.seq ?_ | refine J.region ?_ | refine JL.nil ?_ | (apply JL.guard_no; rfl; rfl; rfl; rfl; rfl) | refine J.cond_t rfl ?_)
    exact J.ret1 Try.func50 Try.results50 (RV.tm rfl) fun w' hw => ⟨ret_eq (by rw [if_pos (.inr (.inl h4))]), hw.ext⟩
  rw [decide_eq_false h4]
  repeat (first | (apply JL.y; (first | (apply Y_move; rfl) | (apply Y_len; rfl) | (apply Y_eql; rfl; rfl) | (apply Y_pick_f; rfl; rfl)); rfl) | (apply JL.guard_yes; rfl; rfl; rfl))
  by_cases h5 : (xs.length : Int) = 0
  · rw [decide_eq_true h5]
    repeat (first | (apply JL.y; (first | (apply Y_move; rfl) | (apply Y_assign; rfl) | (apply Y_pick_t; rfl; rfl)); rfl) | refine J.seq ?_ | refine J.region ?_ | refine JL.nil ?_ | (apply JL.guard_no; rfl; rfl; rfl; rfl; rfl) | refine J.cond_t rfl ?_)
    exact J.ret1 Try.func50 Try.results50 (RV.tm rfl) fun w' hw => ⟨ret_eq (by rw [if_pos (.inr (.inr (.inl (by omega))))]), hw.ext⟩
  rw [decide_eq_false h5]
  repeat (first | (apply JL.y; (first | (apply Y_move; rfl) | (apply Y_fieldAddr; rfl; rfl) | (apply Y_load1 0; rfl; rfl; rfl; exact inferInstance) | (apply Y_len; rfl) | (apply Y_gtr; rfl; rfl) | (apply Y_pick_f; rfl; rfl)); rfl) | (apply JL.guard_yes; rfl; rfl; rfl))
  by_cases h6 : k.words < xs.length
  · rw [decide_eq_true h6]
    repeat (first | (apply JL.y; (first | (apply Y_assign; rfl) | (apply Y_pick_t; rfl; rfl)); rfl) | refine J.seq ?_ | refine J.region ?_ | refine JL.nil ?_ | (apply JL.guard_no; rfl; rfl; rfl; rfl; rfl) | refine J.cond_t rfl ?_)
    exact J.ret1 Try.func50 Try.results50 (RV.tm rfl) fun w' hw => ⟨ret_eq (by rw [if_pos (.inr (.inr (.inr (.inl h6))))]), hw.ext⟩
  rw [decide_eq_false h6]
  repeat (first | (apply JL.y; (first | (apply Y_move; rfl) | (apply Y_pick_f; rfl; rfl)); rfl) | refine JL.nil ?_ | (apply JL.callq; rfl; rfl; (intro wc hwc; first | exact hasOdd_spec (h.ext0 hwc.ext))) | (apply JL.guard_yes; rfl; rfl; rfl))
  cases h7 : xs.any odd with
  | true =>
    repeat (first | (apply JL.y; (apply Y_assign; rfl); rfl) | refine J.seq ?_ | refine J.region ?_ | refine JL.nil ?_ | refine J.cond_t rfl ?_)
    exact J.ret1 Try.func50 Try.results50 (RV.tm rfl) fun w' hw => ⟨ret_eq (by rw [if_pos (.inr (.inr (.inr (.inr rfl))))]), hw.ext⟩
  | false =>
    repeat (first | (apply JL.y; (apply Y_assign; rfl); rfl) | refine J.seq ?_ | refine J.region ?_ | refine JL.nil ?_ | refine J.skip ?_ | refine J.cond_f rfl ?_ | (apply J.exit; rfl))
    exact J.ret1 Try.func50 Try.results50 (RV.tm rfl) fun w' hw => ⟨ret_eq (judge0 h3 h4 (by omega) h6 rfl).symm, hw.ext⟩
set_option maxHeartbeats 1000000 in
/-- empennageref12.Judge. -/
theorem rjudge_spec {w : World} {ok : Nat → Prop} {v : Value} {xs : List Int} (k : Ch) (mode lane : Int) (h : Foot (fun w => RInts w v xs) w ok) :
    Calls Try.prog 52 #[.agg (chC k).toArray, .int .i64 mode, .int .i64 lane, v] w fun e w' => e = .returned (.int .i64 (judge k mode lane xs)) ∧ Ext No w w' := by
  obtain ⟨A, c, rfl, hc, hm⟩ := h.now.slice
  refine Calls.of_G4 Try.func52 rfl Try.ntmps52 rfl ?_
  refine J.at (C := Cls w No []) ?_ (Cls.start _ _)
  unfold chC
  repeat (first | (apply JL.y; (first | (apply Y_move; rfl) | (apply Y_assign; rfl) | (apply Y_neq; rfl; rfl)); rfl) | refine J.seq ?_ | refine J.region ?_ | refine JL.nil ?_ | (apply JL.box; rfl; rfl; rfl; intro _))
  refine J.cond_d rfl (fun h1 => ?_) (fun h1 => ?_)
  · repeat (first | (apply JL.y; (apply Y_assign; rfl); rfl) | refine J.seq ?_ | refine J.region ?_ | refine JL.nil ?_)
    exact J.ret1 Try.func52 Try.results52 (RV.tm rfl) fun w' hw => ⟨ret_eq (by rw [judge, if_pos h1]), hw.ext⟩
  have e1 : judge k mode lane xs = if ¬ k.kind = 1 then 4 else if lane < 0 ∨ k.lanes ≤ lane ∨ xs.length = 0 ∨ k.words < xs.length ∨ xs.any odd = true then 3 else 0 := by rw [judge, if_neg h1]
  rw [e1]
  repeat (first | (apply JL.y; (first | (apply Y_fieldAddr; rfl; rfl) | (apply Y_load1 0; rfl; rfl; rfl; exact inferInstance) | (apply Y_neq; rfl; rfl)); rfl) | refine J.seq ?_ | refine J.region ?_ | refine JL.nil ?_ | refine J.skip ?_)
  refine J.cond_d rfl (fun h2 => ?_) (fun h2 => ?_)
  · repeat (first | (apply JL.y; (apply Y_assign; rfl); rfl) | refine J.seq ?_ | refine J.region ?_ | refine JL.nil ?_)
    exact J.ret1 Try.func52 Try.results52 (RV.tm rfl) fun w' hw => ⟨ret_eq (by rw [if_pos h2]), hw.ext⟩
  rw [if_neg h2]
  repeat (first | (apply JL.y; (first | (apply Y_move; rfl) | (apply Y_lss; rfl; rfl)); rfl) | refine J.seq ?_ | refine J.region ?_ | refine J.skip ?_)
  by_cases h3 : lane < 0
  · rw [decide_eq_true h3]
    repeat (first | (apply JL.y; (first | (apply Y_move; rfl) | (apply Y_assign; rfl) | (apply Y_pick_t; rfl; rfl)); rfl) | refine J.seq ?_ | refine J.region ?_ | refine JL.nil ?_ | (apply JL.guard_no; rfl; rfl; rfl; rfl; rfl) | refine J.cond_t rfl ?_)
    exact J.ret1 Try.func52 Try.results52 (RV.tm rfl) fun w' hw => ⟨ret_eq (by rw [if_pos (.inl h3)]), hw.ext⟩
  rw [decide_eq_false h3]
  repeat (first | (apply JL.y; (first | (apply Y_move; rfl) | (apply Y_fieldAddr; rfl; rfl) | (apply Y_load1 0; rfl; rfl; rfl; exact inferInstance) | (apply Y_geq; rfl; rfl) | (apply Y_pick_f; rfl; rfl)); rfl) | (apply JL.guard_yes; rfl; rfl; rfl))
  by_cases h4 : k.lanes ≤ lane
  · rw [decide_eq_true h4]
    repeat (first | (apply JL.y; (first | (apply Y_move; rfl) | (apply Y_assign; rfl) | (apply Y_pick_t; rfl; rfl)); rfl) | refine J.seq ?_ | refine J.region ?_ | refine JL.nil ?_ | (apply JL.guard_no; rfl; rfl; rfl; rfl; rfl) | refine J.cond_t rfl ?_)
    exact J.ret1 Try.func52 Try.results52 (RV.tm rfl) fun w' hw => ⟨ret_eq (by rw [if_pos (.inr (.inl h4))]), hw.ext⟩
  rw [decide_eq_false h4]
  repeat (first | (apply JL.y; (first | (apply Y_move; rfl) | (apply Y_len; rfl) | (apply Y_lss; rfl; rfl) | (apply Y_pick_f; rfl; rfl)); rfl) | (apply JL.guard_yes; rfl; rfl; rfl))
  by_cases h5 : (xs.length : Int) < 1
  · rw [decide_eq_true h5]
    repeat (first | (apply JL.y; (first | (apply Y_assign; rfl) | (apply Y_pick_t; rfl; rfl)); rfl) | refine J.seq ?_ | refine J.region ?_ | refine JL.nil ?_ | (apply JL.guard_no; rfl; rfl; rfl; rfl; rfl) | refine J.cond_t rfl ?_)
    exact J.ret1 Try.func52 Try.results52 (RV.tm rfl) fun w' hw => ⟨ret_eq (by rw [if_pos (.inr (.inr (.inl (by omega))))]), hw.ext⟩
  rw [decide_eq_false h5]
  repeat (first | (apply JL.y; (first | (apply Y_move; rfl) | (apply Y_fieldAddr; rfl; rfl) | (apply Y_load1 0; rfl; rfl; rfl; exact inferInstance) | (apply Y_len; rfl) | (apply Y_gtr; rfl; rfl) | (apply Y_pick_f; rfl; rfl)); rfl) | refine JL.nil ?_ | (apply JL.guard_yes; rfl; rfl; rfl))
  refine J.cond_d rfl (fun h6 => ?_) (fun h6 => ?_)
  · repeat (first | (apply JL.y; (apply Y_assign; rfl); rfl) | refine J.seq ?_ | refine J.region ?_ | refine JL.nil ?_)
    exact J.ret1 Try.func52 Try.results52 (RV.tm rfl) fun w' hw => ⟨ret_eq (by rw [if_pos (.inr (.inr (.inr (.inl h6))))]), hw.ext⟩
  repeat (first | (apply JL.y; (apply Y_assign; rfl); rfl) | refine J.seq ?_ | refine J.region ?_ | refine JL.nil ?_ | refine J.skip ?_ | refine J.block ?_)
  refine J.intro fun wl hwl => G.loop (Inv := fun m e wl => ∃ i : Nat, i ≤ xs.length ∧ m = xs.length - i ∧ (xs.take i).any odd = false ∧ Ext No w wl ∧ e = [(3, .slice A xs.length c), (9, .int .i64 i)])
    _ _ ⟨0, Nat.zero_le _, rfl, by simp, hwl.ext, rfl⟩ ⟨rfl, rfl, trivial⟩ ?_
  rintro m e w1 ⟨i, hi, rfl, hno, hE, rfl⟩ ih
  refine J.at (C := Cls w1 No []) ?_ (Cls.start _ _)
  repeat (first | (apply JL.y; (first | (apply Y_move; rfl) | (apply Y_len; rfl) | (apply Y_lss; rfl; rfl)); rfl) | refine J.seq ?_ | refine J.region ?_ | refine JL.nil ?_)
  refine J.cond_d rfl (fun hlt => ?_) (fun hlt => ?_)
  · have hil : i < xs.length := by omega
    have hx : xs[i]? = some xs[i] := List.getElem?_eq_getElem hil
    obtain ⟨ad, rfl⟩ := h.now.ad hx
    have l1 := (RInts.lds h hx).ext0 hE
    have hin : odd xs[i] = true → xs.any odd = true := fun ho => List.any_eq_true.2 ⟨_, List.getElem_mem hil, ho⟩
    unfold maxLen at hm
    repeat (first | (apply JL.y; (apply Y_move; rfl); rfl) | refine J.seq ?_ | refine J.region ?_ | refine J.skip ?_ | refine J.block ?_)
    apply JL.y (Y_indexAddr rfl rfl (by omega)) rfl
    apply JL.y (Y_loadP rfl fun w hw => l1.at_ hw.ext fun _ _ _ h => h) rfl
    repeat (first | (apply JL.y; (first | (apply Y_move; rfl) | (apply Y_lss; rfl; rfl)); rfl))
    by_cases ho : xs[i] < 0
    · rw [decide_eq_true ho]
      repeat (first | (apply JL.y; (first | (apply Y_assign; rfl) | (apply Y_pick_t; rfl; rfl)); rfl) | refine J.seq ?_ | refine J.region ?_ | refine JL.nil ?_ | (apply JL.guard_no; rfl; rfl; rfl; rfl; rfl) | refine J.cond_t rfl ?_)
      exact J.ret1 Try.func52 Try.results52 (RV.tm rfl) fun w' hw => ⟨ret_eq (by rw [if_pos (.inr (.inr (.inr (.inr (hin (by simp [odd, ho]))))))]), hE.trans hw.ext⟩
    rw [decide_eq_false ho]
    repeat (first | (apply JL.y; (apply Y_move; rfl); rfl) | (apply JL.guard_yes; rfl; rfl; rfl))
    apply JL.y (Y_indexAddr rfl rfl (by omega)) rfl
    repeat (first | (apply JL.guard_yes; rfl; rfl; rfl))
    apply JL.y (Y_loadP rfl fun w hw => l1.at_ hw.ext fun _ _ _ h => h) rfl
    repeat (first | (apply JL.y; (first | (apply Y_gtr; rfl; rfl) | (apply Y_pick_f; rfl; rfl)); rfl) | refine JL.nil ?_ | (apply JL.guard_yes; rfl; rfl; rfl))
    refine J.cond_d rfl (fun h8 => ?_) (fun h8 => ?_)
    · repeat (first | (apply JL.y; (apply Y_assign; rfl); rfl) | refine J.seq ?_ | refine J.region ?_ | refine JL.nil ?_)
      exact J.ret1 Try.func52 Try.results52 (RV.tm rfl) fun w' hw => ⟨ret_eq (by rw [if_pos (.inr (.inr (.inr (.inr (hin (by simp [odd, h8]))))))]), hE.trans hw.ext⟩
    · repeat (first | (apply JL.y; (first | (apply Y_move; rfl) | (apply Y_assign; rfl) | (apply Y_add; rfl; rfl; omega)); rfl) | refine J.region ?_ | refine JL.nil ?_ | refine J.skip ?_ | refine J.inBlock ?_)
      refine J.intro fun w2 hw2 => ih (xs.length - (i + 1)) (by omega) _ _ w2 ?_ ⟨i + 1, hil, rfl, by rw [any_snoc hx, hno]; simp [odd]; omega, hE.trans hw2.ext, rfl⟩
      exact ⟨rfl, rfl, trivial⟩
  · repeat (first | (apply JL.y; (apply Y_assign; rfl); rfl) | refine J.seq ?_ | refine J.region ?_ | refine JL.nil ?_ | (apply J.exit; rfl))
    refine J.ret1 Try.func52 Try.results52 (RV.tm rfl) fun w' hw => ⟨ret_eq ?_, hE.trans hw.ext⟩
    rw [List.take_of_length_le (by omega)] at hno
    rw [hno, if_neg (fun h => by rcases h with h | h | h | h | h <;> first | omega | cases h)]
end Go.Proofs.Ytmkpbbdocndfbaa
