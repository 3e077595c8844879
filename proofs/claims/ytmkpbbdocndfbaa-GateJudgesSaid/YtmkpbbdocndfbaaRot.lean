/- Swapping and rotating ranges of messages. -/
import Derived.Test.YtmkpbbdocndfbaaSort
namespace Go.Proofs.Ytmkpbbdocndfbaa
open Go.RowKit Go.Proofs
attribute [local irreducible] Yl JL J G GL GA GQ DR

theorem swap_far {τ : Type} (A : List τ) (x : τ) (M : List τ) (y : τ) (B : List τ) {i j : Nat} (hi : i = A.length) (hj : j = A.length + 1 + M.length) : ((A ++ x :: (M ++ y :: B)).set i y).set j x = A ++ y :: (M ++ x :: B) := by
  subst hi; subst hj
  rw [List.set_append_right _ _ (by omega), List.set_append_right _ _ (by omega)]
  simp only [Nat.sub_self, List.set_cons_zero]
  rw [show A.length + 1 + M.length - A.length = M.length + 1 by omega, List.set_cons_succ, List.set_append_right _ _ (by omega)]; simp
theorem swap_far' {τ : Type} (A : List τ) (x : τ) (M : List τ) (y : τ) (B : List τ) {i j : Nat} (hi : i = A.length) (hj : j = A.length + 1 + M.length) : ((A ++ x :: (M ++ y :: B)).set j x).set i y = A ++ y :: (M ++ x :: B) := by
  rw [List.set_comm _ _ (by omega)]; exact swap_far A x M y B hi hj
theorem far_1 {τ : Type} (A : List τ) (x : τ) (B : List τ) {i : Nat} (hi : i = A.length) : (A ++ x :: B)[i]? = some x := by subst hi; simp
theorem far_2 {τ : Type} (A : List τ) (x : τ) (M : List τ) (y : τ) (B : List τ) {i : Nat} (hi : i = A.length + 1 + M.length) : (A ++ x :: (M ++ y :: B))[i]? = some y := by
  subst hi
  rw [List.getElem?_append_right (by omega), show A.length + 1 + M.length - A.length = M.length + 1 by omega, List.getElem?_cons_succ, List.getElem?_append_right (by omega)]; simp

set_option maxHeartbeats 1000000 in
/-- slices.swapRangeCmpFunc. -/
theorem swapRange_spec {w : World} {g m c : Nat} {P U V W Q : List (Value × Msg)} {fv : Value} (hrow : MRow w (.slice (some ⟨g, 0, none⟩) m c) (P ++ U ++ V ++ W ++ Q)) (hone : Ones (P ++ U ++ V ++ W ++ Q)) (hUW : U.length = W.length) {a b s : Int} (ha : a = P.length) (hb : b = P.length + U.length + V.length) (hs : s = U.length) (hn : (P ++ U ++ V ++ W ++ Q).length ≤ 1000000) :
    Calls Try.prog 185 #[.slice (some ⟨g, 0, none⟩) m c, .int .i64 a, .int .i64 b, .int .i64 s, fv] w
      fun e w' => e = .returned (.tuple #[]) ∧ Ext (fun k => k = g) w w' ∧ MRow w' (.slice (some ⟨g, 0, none⟩) m c) (P ++ W ++ V ++ U ++ Q) := by
  have hm : m = (P ++ U ++ V ++ W ++ Q).length := by obtain ⟨A', c', hv, _⟩ := Row.slice hrow; cases hv; simp
  have hlen : (P ++ U ++ V ++ W ++ Q).length = P.length + U.length + V.length + W.length + Q.length := by simp [Nat.add_assoc]
  rw [hlen] at hm hn
  clear hlen
  refine Calls.of_G5 Try.func185 rfl Try.ntmps185 rfl ?_
  refine J.at (C := Cls w No []) ?_ (Cls.start _ _)
  repeat (first | (apply JL.y; (apply Y_assign; rfl); rfl) | refine J.seq ?_ | refine J.region ?_ | refine JL.nil ?_ | refine J.block ?_)
  refine J.intro fun wl hwl => G.loop (Inv := fun mm e wl => ∃ (U1 U2 W1 W2 : List (Value × Msg)) (i : Int), U = U1 ++ U2 ∧ W = W1 ++ W2 ∧ U1.length = W1.length ∧ i = U1.length ∧ mm = U2.length ∧ Ext (fun k => k = g) w wl ∧ MRow wl (.slice (some ⟨g, 0, none⟩) m c) ((P ++ W1) ++ (U2 ++ V ++ U1) ++ W2 ++ Q) ∧ e = [(0, .slice (some ⟨g, 0, none⟩) m c), (1, .int .i64 a), (2, .int .i64 b), (3, .int .i64 s), (10, .int .i64 i)])
    _ _ ⟨[], U, [], W, _, rfl, rfl, rfl, rfl, rfl, hwl.ext.no, (hrow.ext0 hwl.ext).eq (by simp), rfl⟩ ⟨rfl, rfl, rfl, rfl, rfl, trivial⟩ ?_
  rintro mm e w1 ⟨U1, U2, W1, W2, i, rfl, rfl, hl, rfl, rfl, hE, hR, rfl⟩ ih
  simp only [List.length_append] at hUW hb hs hm hn
  refine J.at (C := Cls w1 No []) ?_ (Cls.start _ _)
  repeat (first | (apply JL.y; (first | (apply Y_move; rfl) | (apply Y_lss; rfl; rfl)); rfl) | refine J.seq ?_ | refine J.region ?_ | refine JL.nil ?_)
  refine J.cond_d rfl (fun hlt => ?_) (fun hlt => ?_)
  case refine_2 =>
    have h1 : U2 = [] := List.eq_nil_of_length_eq_zero (by omega)
    have h2 : W2 = [] := List.eq_nil_of_length_eq_zero (by omega)
    subst h1; subst h2
    repeat (first | (apply J.exit; rfl))
    exact J.end0 Try.func185 Try.results185 fun w' hw => ⟨rfl, hE.trans hw.ext.no, (hR.ext0 hw.ext).eq (by simp)⟩
  cases U2 with
  | nil => simp at hs; omega
  | cons u U2 =>
  cases W2 with
  | nil => simp at hUW; omega
  | cons x W2 =>
  have hou : u.1.oneCell' = true := hone u (by simp)
  have hox : x.1.oneCell' = true := hone x (by simp)
  have hR1 := hR.eq (ts' := (P ++ W1) ++ u :: ((U2 ++ V ++ U1) ++ x :: (W2 ++ Q))) (by simp)
  simp only [List.length_cons] at hUW hb hs hm hn
  have hA : (P ++ W1).length = P.length + W1.length := by simp
  have hB : (U2 ++ V ++ U1).length = U2.length + V.length + U1.length := by simp [Nat.add_assoc]
  have lu := hR1.lds (far_1 (P ++ W1) u ((U2 ++ V ++ U1) ++ x :: (W2 ++ Q)) rfl) (q := (a + U1.length).toNat * 5) (by omega)
  have lx := hR1.lds (far_2 (P ++ W1) u (U2 ++ V ++ U1) x (W2 ++ Q) rfl) (q := (b + U1.length).toNat * 5) (by omega)
  repeat (first | refine J.seq ?_ | refine J.skip ?_ | refine J.block ?_)
  refine J.draw (S := Cls _ _ _) [21, 23] #[false, false, false, false, false, false, false, false, false, false, false, false, false, false, false, false, false, false, false, false, false, false, false, false] rfl rfl (fun w hw => hw.drew) (fun w hS => ?_)
  (apply DR.pure 0 #[true, false, false, false, false, false, false, false, false, false, false, false, false, false, false, false, false, false, false, false, false, false, false, false]; rfl; kernel_rfl; (apply Y_move; rfl); rfl)
  (apply DR.pure 1 #[true, true, false, false, false, false, false, false, false, false, false, false, false, false, false, false, false, false, false, false, false, false, false, false]; rfl; kernel_rfl; (apply Y_move; rfl); rfl)
  (apply DR.pure 2 #[true, true, true, false, false, false, false, false, false, false, false, false, false, false, false, false, false, false, false, false, false, false, false, false]; rfl; kernel_rfl; (apply Y_move; rfl); rfl)
  (apply DR.pure 3 #[true, true, true, true, false, false, false, false, false, false, false, false, false, false, false, false, false, false, false, false, false, false, false, false]; rfl; kernel_rfl; (apply Y_add; rfl; rfl; omega); rfl)
  (apply DR.pure 4 #[true, true, true, true, true, false, false, false, false, false, false, false, false, false, false, false, false, false, false, false, false, false, false, false]; rfl; kernel_rfl; (apply Y_move; rfl); rfl)
  (apply DR.pure 5 #[true, true, true, true, true, true, false, false, false, false, false, false, false, false, false, false, false, false, false, false, false, false, false, false]; rfl; kernel_rfl; (apply Y_move; rfl); rfl)
  (apply DR.pure 6 #[true, true, true, true, true, true, true, false, false, false, false, false, false, false, false, false, false, false, false, false, false, false, false, false]; rfl; kernel_rfl; (apply Y_move; rfl); rfl)
  (apply DR.pure 7 #[true, true, true, true, true, true, true, true, false, false, false, false, false, false, false, false, false, false, false, false, false, false, false, false]; rfl; kernel_rfl; (apply Y_add; rfl; rfl; omega); rfl)
  (apply DR.pure 8 #[true, true, true, true, true, true, true, true, true, false, false, false, false, false, false, false, false, false, false, false, false, false, false, false]; rfl; kernel_rfl; (apply Y_move; rfl); rfl)
  (apply DR.pure 9 #[true, true, true, true, true, true, true, true, true, true, false, false, false, false, false, false, false, false, false, false, false, false, false, false]; rfl; kernel_rfl; (apply Y_move; rfl); rfl)
  (apply DR.pure 10 #[true, true, true, true, true, true, true, true, true, true, true, false, false, false, false, false, false, false, false, false, false, false, false, false]; rfl; kernel_rfl; (apply Y_move; rfl); rfl)
  (apply DR.pure 11 #[true, true, true, true, true, true, true, true, true, true, true, true, false, false, false, false, false, false, false, false, false, false, false, false]; rfl; kernel_rfl; (apply Y_add; rfl; rfl; omega); rfl)
  (apply DR.pure 12 #[true, true, true, true, true, true, true, true, true, true, true, true, true, false, false, false, false, false, false, false, false, false, false, false]; rfl; kernel_rfl; (apply Y_indexAddr; rfl; rfl; omega); rfl)
  (apply DR.take 13 #[true, true, true, true, true, true, true, true, true, true, true, true, true, true, false, false, false, false, false, false, false, false, false, false]; rfl; kernel_rfl; exact Y_loadP rfl fun w hw => lx.at_ hw.ext fun _ _ _ h => h; rfl; exact hS)
  (apply DR.pure 14 #[true, true, true, true, true, true, true, true, true, true, true, true, true, true, true, false, false, false, false, false, false, false, false, false]; rfl; kernel_rfl; (apply Y_move; rfl); rfl)
  (apply DR.pure 15 #[true, true, true, true, true, true, true, true, true, true, true, true, true, true, true, true, false, false, false, false, false, false, false, false]; rfl; kernel_rfl; (apply Y_move; rfl); rfl)
  (apply DR.pure 16 #[true, true, true, true, true, true, true, true, true, true, true, true, true, true, true, true, true, false, false, false, false, false, false, false]; rfl; kernel_rfl; (apply Y_move; rfl); rfl)
  (apply DR.pure 17 #[true, true, true, true, true, true, true, true, true, true, true, true, true, true, true, true, true, true, false, false, false, false, false, false]; rfl; kernel_rfl; (apply Y_add; rfl; rfl; omega); rfl)
  (apply DR.pure 18 #[true, true, true, true, true, true, true, true, true, true, true, true, true, true, true, true, true, true, true, false, false, false, false, false]; rfl; kernel_rfl; (apply Y_indexAddr; rfl; rfl; omega); rfl)
  (apply DR.take 19 #[true, true, true, true, true, true, true, true, true, true, true, true, true, true, true, true, true, true, true, true, false, false, false, false]; rfl; kernel_rfl; exact Y_loadP rfl fun w hw => lu.at_ hw.ext fun _ _ _ h => h; rfl; exact hS)
  (apply DR.pure 20 #[true, true, true, true, true, true, true, true, true, true, true, true, true, true, true, true, true, true, true, true, true, false, false, false]; rfl; kernel_rfl; (apply Y_indexAddr; rfl; rfl; omega); rfl)
  refine DR.rowStore 21 #[true, true, true, true, true, true, true, true, true, true, true, true, true, true, true, true, true, true, true, true, true, true, false, false] rfl (by kernel_rfl) rfl _ rfl rfl (MRow.set (hR1.ext0 hS.ext) (i := (P ++ W1).length) (by simp) hox (by omega)) (fun w5 ⟨hR5, hE5⟩ => ?_)
  (apply DR.pure 22 #[true, true, true, true, true, true, true, true, true, true, true, true, true, true, true, true, true, true, true, true, true, true, true, false]; rfl; kernel_rfl; (apply Y_indexAddr; rfl; rfl; omega); rfl)
  refine DR.rowStore 23 #[true, true, true, true, true, true, true, true, true, true, true, true, true, true, true, true, true, true, true, true, true, true, true, true] rfl (by kernel_rfl) rfl _ rfl rfl (MRow.set hR5 (i := (P ++ W1).length + 1 + (U2 ++ V ++ U1).length) (by simp; omega) hou (by omega)) (fun w6 ⟨hR6, hE6⟩ => ?_)
  refine DR.done (by kernel_rfl) ?_
  refine J.at (C := Cls w6 No []) ?_ (Cls.start _ _)
  have hE36 : Ext (fun k => k = g) w1 w6 := (hS.ext.no.trans hE5).trans hE6
  repeat (first | (apply JL.y; (first | (apply Y_move; rfl) | (apply Y_assign; rfl) | (apply Y_add; rfl; rfl; omega)); rfl) | refine J.region ?_ | refine JL.nil ?_ | refine J.inBlock ?_)
  refine J.intro fun w7 hw7 => ih U2.length (by simp) _ _ w7 ?_ ⟨U1 ++ [u], U2, W1 ++ [x], W2, U1.length + 1, by simp, by simp, by simp [hl], by simp, rfl, (hE.trans hE36).trans hw7.ext.no, (hR6.ext0 hw7.ext).eq ?_, rfl⟩
  · exact ⟨rfl, rfl, rfl, rfl, rfl, trivial⟩
  · rw [swap_far _ _ _ _ _ rfl rfl]; simp

set_option maxHeartbeats 1000000 in
/-- slices.rotateCmpFunc. -/
theorem rotate_spec {w : World} {g m c : Nat} {P X Y Q : List (Value × Msg)} {fv : Value} (hrow : MRow w (.slice (some ⟨g, 0, none⟩) m c) (P ++ X ++ Y ++ Q)) (hone : Ones (P ++ X ++ Y ++ Q)) (hX : 0 < X.length) (hY : 0 < Y.length) {a b d : Int} (ha : a = P.length) (hd : d = P.length + X.length) (hb : b = P.length + X.length + Y.length) (hn : (P ++ X ++ Y ++ Q).length ≤ 1000000) :
    Calls Try.prog 179 #[.slice (some ⟨g, 0, none⟩) m c, .int .i64 a, .int .i64 d, .int .i64 b, fv] w
      fun e w' => e = .returned (.tuple #[]) ∧ Ext (fun k => k = g) w w' ∧ MRow w' (.slice (some ⟨g, 0, none⟩) m c) (P ++ Y ++ X ++ Q) := by
  have hlen : (P ++ X ++ Y ++ Q).length = P.length + X.length + Y.length + Q.length := by simp [Nat.add_assoc]
  refine Calls.of_G5 Try.func179 rfl Try.ntmps179 rfl ?_
  refine J.at (C := Cls w No []) ?_ (Cls.start _ _)
  repeat (first | (apply JL.y; (first | (apply Y_move; rfl) | (apply Y_assign; rfl) | (apply Y_sub; rfl; rfl; omega)); rfl) | refine J.seq ?_ | refine J.region ?_ | refine JL.nil ?_ | refine J.block ?_)
  refine J.intro fun wl hwl => G.loop (Inv := fun mm e wl => ∃ (P1 L R Q1 : List (Value × Msg)) (i j : Int), P1 ++ R ++ L ++ Q1 = P ++ Y ++ X ++ Q ∧ d = P1.length + L.length ∧ 0 < L.length ∧ 0 < R.length ∧ i = L.length ∧ j = R.length ∧ mm = L.length + R.length ∧ Ext (fun k => k = g) w wl ∧ MRow wl (.slice (some ⟨g, 0, none⟩) m c) (P1 ++ L ++ R ++ Q1) ∧ e = [(0, .slice (some ⟨g, 0, none⟩) m c), (2, .int .i64 d), (4, fv), (10, .int .i64 i), (11, .int .i64 j)])
    _ _ ⟨P, X, Y, Q, _, _, rfl, hd, hX, hY, by omega, by omega, rfl, hwl.ext.no, hrow.ext0 hwl.ext, rfl⟩ ⟨rfl, rfl, rfl, rfl, rfl, trivial⟩ ?_
  rintro mm e w1 ⟨P1, L, R, Q1, i, j, hPQ, hd1, hL, hR, rfl, rfl, rfl, hE, hRow, rfl⟩ ih
  have hlen1 : P1.length + L.length + R.length + Q1.length = P.length + X.length + Y.length + Q.length := by
    have := congrArg List.length hPQ; simp at this; omega
  have hone1 : Ones (P1 ++ L ++ R ++ Q1) := fun p hp => hone p (by
    have h : p ∈ P1 ++ R ++ L ++ Q1 := by grind
    rw [hPQ] at h
    grind)
  refine J.at (C := Cls w1 No []) ?_ (Cls.start _ _)
  repeat (first | (apply JL.y; (first | (apply Y_move; rfl) | (apply Y_neq; rfl; rfl)); rfl) | refine J.seq ?_ | refine J.region ?_ | refine JL.nil ?_)
  refine J.cond_d rfl (fun hlt => ?_) (fun hlt => ?_)
  case refine_2 =>
    have heq : L.length = R.length := by have := Classical.not_not.1 hlt; omega
    repeat (first | (apply JL.y; (first | (apply Y_move; rfl) | (apply Y_sub; rfl; rfl; omega)); rfl) | refine J.region ?_ | (apply J.exit; rfl))
    refine JL.call (fun w2 v w3 => v = .tuple #[] ∧ Ext (fun k => k = g) w2 w3 ∧ MRow w3 (.slice (some ⟨g, 0, none⟩) m c) (P1 ++ R ++ [] ++ L ++ Q1)) rfl rfl (fun w2 hw2 => (swapRange_spec (P := P1) (U := L) (V := []) (W := R) (Q := Q1) ((hRow.ext0 hw2.ext).eq (by simp)) (by simpa using hone1) heq (by omega) (by simp; omega) (by omega) (by simp; omega)).mono fun e w' h => ⟨_, h.1, rfl, h.2⟩) fun w2 r w3 hw2 ⟨hr, hE3, hR3⟩ => ?_
    subst hr
    refine GL.of_JL (C := Cls w3 No []) (Cls.start _ _) ?_
    repeat (first | refine JL.nil ?_)
    exact J.end0 Try.func179 Try.results179 fun w' hw => ⟨rfl, ((hE.trans hw2.ext.no).trans hE3).trans hw.ext.no, (hR3.ext0 hw.ext).eq (by rw [← hPQ]; simp)⟩
  repeat (first | (apply JL.y; (first | (apply Y_move; rfl) | (apply Y_gtr; rfl; rfl)); rfl) | refine J.seq ?_ | refine J.region ?_ | refine JL.nil ?_ | refine J.skip ?_ | refine J.block ?_)
  refine J.cond_d rfl (fun hgt => ?_) (fun hgt => ?_)
  · obtain ⟨L1, L2, rfl, hl1⟩ : ∃ L1 L2, L = L1 ++ L2 ∧ L1.length = R.length := ⟨L.take R.length, L.drop R.length, by simp, by simp; omega⟩
    have hLL : (L1 ++ L2).length = L1.length + L2.length := by simp
    repeat (first | (apply JL.y; (first | (apply Y_move; rfl) | (apply Y_sub; rfl; rfl; omega)); rfl) | refine J.seq ?_ | refine J.region ?_)
    refine JL.call (fun w2 v w3 => v = .tuple #[] ∧ Ext (fun k => k = g) w2 w3 ∧ MRow w3 (.slice (some ⟨g, 0, none⟩) m c) (P1 ++ R ++ L2 ++ L1 ++ Q1)) rfl rfl (fun w2 hw2 => (swapRange_spec (P := P1) (U := L1) (V := L2) (W := R) (Q := Q1) ((hRow.ext0 hw2.ext).eq (by simp)) (by simpa using hone1) hl1 (by simp; omega) (by omega) (by omega) (by simp; omega)).mono fun e w' h => ⟨_, h.1, rfl, h.2⟩) fun w2 r w3 hw2 ⟨hr, hE3, hR3⟩ => ?_
    subst hr
    refine GL.of_JL (C := Cls w3 No []) (Cls.start _ _) ?_
    repeat (first | (apply JL.y; (first | (apply Y_move; rfl) | (apply Y_assign; rfl) | (apply Y_sub; rfl; rfl; omega)); rfl) | refine J.region ?_ | refine JL.nil ?_ | refine J.inBlock ?_)
    refine J.intro fun w7 hw7 => ih (L2.length + L1.length) (by simp; omega) _ _ w7 ?_ ⟨P1 ++ R, L2, L1, Q1, ((L1 ++ L2).length : Int) - R.length, R.length, by rw [← hPQ]; simp, by simp; omega, by omega, by omega, by simp; omega, by omega, rfl, ((hE.trans hw2.ext.no).trans hE3).trans hw7.ext.no, (hR3.ext0 hw7.ext), rfl⟩
    exact ⟨rfl, rfl, rfl, rfl, rfl, trivial⟩
  · obtain ⟨R1, R2, rfl, hl1⟩ : ∃ R1 R2, R = R1 ++ R2 ∧ R2.length = L.length := ⟨R.take (R.length - L.length), R.drop (R.length - L.length), by simp, by simp; omega⟩
    have hRR : (R1 ++ R2).length = R1.length + R2.length := by simp
    repeat (first | (apply JL.y; (first | (apply Y_move; rfl) | (apply Y_add; rfl; rfl; omega) | (apply Y_sub; rfl; rfl; omega)); rfl) | refine J.seq ?_ | refine J.region ?_)
    refine JL.call (fun w2 v w3 => v = .tuple #[] ∧ Ext (fun k => k = g) w2 w3 ∧ MRow w3 (.slice (some ⟨g, 0, none⟩) m c) (P1 ++ R2 ++ R1 ++ L ++ Q1)) rfl rfl (fun w2 hw2 => (swapRange_spec (P := P1) (U := L) (V := R1) (W := R2) (Q := Q1) ((hRow.ext0 hw2.ext).eq (by simp)) (by simpa using hone1) hl1.symm (by omega) (by simp; omega) (by omega) (by simp; omega)).mono fun e w' h => ⟨_, h.1, rfl, h.2⟩) fun w2 r w3 hw2 ⟨hr, hE3, hR3⟩ => ?_
    subst hr
    refine GL.of_JL (C := Cls w3 No []) (Cls.start _ _) ?_
    repeat (first | (apply JL.y; (first | (apply Y_move; rfl) | (apply Y_assign; rfl) | (apply Y_sub; rfl; rfl; omega)); rfl) | refine J.region ?_ | refine JL.nil ?_ | refine J.inBlock ?_)
    refine J.intro fun w7 hw7 => ih (R2.length + R1.length) (by simp; omega) _ _ w7 ?_ ⟨P1, R2, R1, L ++ Q1, L.length, ((R1 ++ R2).length : Int) - L.length, by rw [← hPQ]; simp, by omega, by omega, by omega, by omega, by simp; omega, rfl, ((hE.trans hw2.ext.no).trans hE3).trans hw7.ext.no, (hR3.ext0 hw7.ext).eq (by simp), rfl⟩
    exact ⟨rfl, rfl, rfl, rfl, rfl, trivial⟩
end Go.Proofs.Ytmkpbbdocndfbaa
