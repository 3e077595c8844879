/- slices.symMergeCmpFunc of messages: two parts. -/
import Derived.Test.YtmkpbbdocndfbaaMerge
namespace Go.Proofs.Ytmkpbbdocndfbaa
open Go.RowKit Go.Proofs
attribute [local irreducible] Yl JL J G GL GA GQ DR
section
variable {w : World} {g m c kb : Nat}

set_option maxHeartbeats 8000000 in
theorem symMerge_spec (N : Nat) : ∀ {w : World} {P A B Q : List (Value × Msg)} {a d b : Int}, A.length + B.length ≤ N → MRow w (.slice (some ⟨g, 0, none⟩) m c) (P ++ A ++ B ++ Q) → Ones (P ++ A ++ B ++ Q) → KeyAt kb w → kb ≠ g → St.Srt mkey A → St.Srt mkey B → 0 < A.length → 0 < B.length →
    a = P.length → d = P.length + A.length → b = P.length + A.length + B.length → (P ++ A ++ B ++ Q).length ≤ 1000000 →
    Calls Try.prog 167 #[.slice (some ⟨g, 0, none⟩) m c, .int .i64 a, .int .i64 d, .int .i64 b, cmpV kb] w
      fun e w' => e = .returned (.tuple #[]) ∧ Ext (fun k => k = g) w w' ∧ MRow w' (.slice (some ⟨g, 0, none⟩) m c) (P ++ St.srt mkey (A ++ B) ++ Q) := by
  induction N with
  | zero => intro w P A B Q a d b h1 _ _ _ _ _ _ h2; omega
  | succ N ihN =>
  intro w P A B Q a d b hN hrow hone hk hkb hsA hsBB hA hB ha hd hb hn
  by_cases hx1 : A.length = 1
  · exact symMerge_one hrow hone hk hkb hsA hsBB hA hB ha hd hb hn hx1
  by_cases hx2 : B.length = 1
  · exact symMerge_end hrow hone hk hkb hsA hsBB hA hB ha hd hb hn hx1 hx2
  have hm : m = (P ++ A ++ B ++ Q).length := by obtain ⟨A', c', hv, _⟩ := Row.slice hrow; cases hv; simp
  have hlen : (P ++ A ++ B ++ Q).length = P.length + A.length + B.length + Q.length := by simp [Nat.add_assoc]
  rw [hlen] at hm hn
  have la : ∀ {t : Nat} {x : Value × Msg}, A[t]? = some x → ∀ {q : Nat}, q = (P.length + t) * 5 → Foot (Lds Try.prog 33 ((⟨g, 0, none⟩ : Addr).add q) (.agg (msgC x.1 x.2).toArray)) w (fun k => k = g) := fun h q hq => (hrow.eq (by simp)).lds (at_app (R := B ++ Q) h) hq
  have lb : ∀ {t : Nat} {x : Value × Msg}, B[t]? = some x → ∀ {q : Nat}, q = (P.length + A.length + t) * 5 → Foot (Lds Try.prog 33 ((⟨g, 0, none⟩ : Addr).add q) (.agg (msgC x.1 x.2).toArray)) w (fun k => k = g) := fun h q hq => (hrow.eq (by simp)).lds (at_app (P := P ++ A) (R := Q) h) (by rw [hq]; simp)
  refine Calls.of_G5 Try.func167 rfl Try.ntmps167 rfl ?_
  refine J.at (C := Cls w No []) ?_ (Cls.start _ _)
  repeat (first | (apply JL.y; (first | (apply Y_move; rfl) | (apply Y_eql; rfl; rfl) | (apply Y_sub; rfl; rfl; omega)); rfl) | refine J.seq ?_ | refine J.region ?_ | refine JL.nil ?_)
  refine J.cond_d rfl (fun h1 => by exfalso; omega) (fun h1 => ?_)
  repeat (first | (apply JL.y; (first | (apply Y_move; rfl) | (apply Y_eql; rfl; rfl) | (apply Y_sub; rfl; rfl; omega)); rfl) | refine J.seq ?_ | refine J.region ?_ | refine JL.nil ?_ | refine J.skip ?_)
  refine J.cond_d rfl (fun h2 => by exfalso; omega) (fun h2 => ?_)
  have hA2 : 2 ≤ A.length := by omega
  have hB2 : 2 ≤ B.length := by omega
  repeat (first | refine J.skip ?_)
  refine J.seq ?_
  repeat (first | (apply JL.y; (first | (apply Y_move; rfl) | (apply Y_assign; rfl) | (apply Y_add; rfl; rfl; omega) | (apply Y_half; rfl) | (apply Y_convU; rfl; omega) | (apply Y_convI; rfl; omega)); rfl) | refine J.region ?_ | refine JL.nil ?_)
  refine J.seq ?_
  repeat (first | (apply JL.y; (first | (apply Y_move; rfl) | (apply Y_assign; rfl) | (apply Y_add; rfl; rfl; omega)); rfl) | refine J.region ?_ | refine JL.nil ?_)
  refine J.seq ?_
  repeat (first | (apply JL.y; (apply Y_assign; rfl); rfl) | refine J.region ?_ | refine JL.nil ?_)
  obtain ⟨mu, hmu⟩ : ∃ mu : Nat, mu = (A.length + B.length) / 2 := ⟨_, rfl⟩
  have hmid : (a + b) / 2 = a + mu := by omega
  rw [hmid]
  refine J.seq ?_
  refine J.join (Cls w No []) (fun e' => ∃ (u v : Nat) (i j : Int), u ≤ v ∧ v ≤ A.length ∧ v ≤ mu ∧ mu ≤ u + B.length ∧ (∀ x y, (A.take u).getLast? = some x → (B.drop (mu - u)).head? = some y → mkey x ≤ mkey y) ∧ (∀ y x, (B.take (mu - v)).getLast? = some y → (A.drop v).head? = some x → mkey y < mkey x) ∧ i = a + u ∧ j = a + v ∧ e' = [(0, .slice (some ⟨g, 0, none⟩) m c), (1, .int .i64 a), (2, .int .i64 d), (3, .int .i64 b), (4, cmpV kb), (18, .int .i64 (a + mu)), (19, .int .i64 (a + mu + d)), (20, .int .i64 i), (21, .int .i64 j)]) (fun k' hj => ?_) ?_
  · repeat (first | (apply JL.y; (first | (apply Y_move; rfl) | (apply Y_gtr; rfl; rfl)); rfl) | refine J.seq ?_ | refine J.region ?_ | refine JL.nil ?_)
    refine J.cond_d rfl (fun h3 => ?_) (fun h3 => ?_)
    · repeat (first | (apply JL.y; (first | (apply Y_move; rfl) | (apply Y_assign; rfl) | (apply Y_sub; rfl; rfl; omega)); rfl) | refine J.seq ?_ | refine J.region ?_ | refine JL.nil ?_)
      refine J.weak (hj _ ⟨(a + mu + d - b - a).toNat, mu, a + mu + d - b, a + mu, by omega, by omega, by omega, by omega, fun x y _ h => ?_, fun y x h => ?_, by omega, rfl, rfl⟩) ?_
      · rw [List.drop_eq_nil_of_le (by omega)] at h; cases h
      · rw [show mu - mu = 0 by omega] at h; simp at h
      · exact ⟨rfl, rfl, rfl, rfl, rfl, rfl, rfl, rfl, rfl, trivial⟩
    · repeat (first | (apply JL.y; (first | (apply Y_move; rfl) | (apply Y_assign; rfl)); rfl) | refine J.seq ?_ | refine J.region ?_ | refine JL.nil ?_)
      refine J.weak (hj _ ⟨0, A.length, a, d, by omega, by omega, by omega, by omega, fun x y h => ?_, fun y x _ h => ?_, by omega, by omega, rfl⟩) ?_
      · simp at h
      · rw [List.drop_eq_nil_of_le (by omega)] at h; cases h
      · exact ⟨rfl, rfl, rfl, rfl, rfl, rfl, rfl, rfl, rfl, trivial⟩
  rintro e' ⟨u0, v0, i0, j0, huv0, hvA0, hvm0, hmB0, hlo0, hhi0, hi0, hj0, rfl⟩
  repeat (first | (apply JL.y; (first | (apply Y_move; rfl) | (apply Y_assign; rfl) | (apply Y_sub; rfl; rfl; omega)); rfl) | refine J.seq ?_ | refine J.region ?_ | refine JL.nil ?_ | refine J.block ?_)
  refine J.intro fun wl hwl => G.loop (Inv := fun mm e wl => ∃ (u v : Nat) (i j : Int), u ≤ v ∧ v ≤ A.length ∧ v ≤ mu ∧ mu ≤ u + B.length ∧ (∀ x y, (A.take u).getLast? = some x → (B.drop (mu - u)).head? = some y → mkey x ≤ mkey y) ∧ (∀ y x, (B.take (mu - v)).getLast? = some y → (A.drop v).head? = some x → mkey y < mkey x) ∧ i = a + u ∧ j = a + v ∧ mm = v - u ∧ Ext No w wl ∧ e = [(0, .slice (some ⟨g, 0, none⟩) m c), (1, .int .i64 a), (2, .int .i64 d), (3, .int .i64 b), (4, cmpV kb), (18, .int .i64 (a + mu)), (19, .int .i64 (a + mu + d)), (20, .int .i64 i), (21, .int .i64 j), (22, .int .i64 (a + mu + d - 1))])
    _ _ ⟨u0, v0, i0, j0, huv0, hvA0, hvm0, hmB0, hlo0, hhi0, hi0, hj0, rfl, hwl.ext, rfl⟩ ⟨rfl, rfl, rfl, rfl, rfl, rfl, rfl, rfl, rfl, rfl, trivial⟩ ?_
  rintro mm e w1 ⟨u, v, i, j, huv, hvA, hvm, hmB, hlo, hhi, hi, hj, rfl, hE, rfl⟩ ih
  refine J.at (C := Cls w1 No []) ?_ (Cls.start _ _)
  repeat (first | (apply JL.y; (first | (apply Y_move; rfl) | (apply Y_lss; rfl; rfl)); rfl) | refine J.seq ?_ | refine J.region ?_ | refine JL.nil ?_)
  refine J.cond_d rfl (fun hlt => ?_) (fun hlt => ?_)
  · repeat (first | (apply JL.y; (first | (apply Y_move; rfl) | (apply Y_assign; rfl) | (apply Y_add; rfl; rfl; omega) | (apply Y_half; rfl) | (apply Y_convU; rfl; omega) | (apply Y_convI; rfl; omega)); rfl) | refine J.seq ?_ | refine J.region ?_ | refine JL.nil ?_ | refine J.skip ?_ | refine J.block ?_)
    obtain ⟨t, ht⟩ : ∃ t : Nat, t = (u + v) / 2 := ⟨_, rfl⟩
    have hct : (i + j) / 2 = a + t := by omega
    rw [hct]
    obtain ⟨x, hx⟩ : ∃ x, A[t]? = some x := ⟨_, List.getElem?_eq_getElem (by omega)⟩
    obtain ⟨y, hy⟩ : ∃ y, B[mu - 1 - t]? = some y := ⟨_, List.getElem?_eq_getElem (by omega)⟩
    have hox : x.1.oneCell' = true := hone x (by simp [List.mem_of_getElem? hx])
    have hoy : y.1.oneCell' = true := hone y (by simp [List.mem_of_getElem? hy])
    have lx := la hx (q := (a + t : Int).toNat * 5) (by omega)
    have ly := lb hy (q := (a + mu + d - 1 - (a + t) : Int).toNat * 5) (by omega)
    refine J.draw (S := Cls _ _ _) [] #[false, false, false, false, false, false, false, false, false, false, false, false, false, false] rfl rfl (fun w hw => hw.drew) (fun w hS => ?_)
    (apply DR.pure 0 #[true, false, false, false, false, false, false, false, false, false, false, false, false, false]; rfl; kernel_rfl; (apply Y_move; rfl); rfl)
    (apply DR.pure 1 #[true, true, false, false, false, false, false, false, false, false, false, false, false, false]; rfl; kernel_rfl; (apply Y_move; rfl); rfl)
    (apply DR.pure 2 #[true, true, true, false, false, false, false, false, false, false, false, false, false, false]; rfl; kernel_rfl; (apply Y_move; rfl); rfl)
    (apply DR.pure 3 #[true, true, true, true, false, false, false, false, false, false, false, false, false, false]; rfl; kernel_rfl; (apply Y_move; rfl); rfl)
    (apply DR.pure 4 #[true, true, true, true, true, false, false, false, false, false, false, false, false, false]; rfl; kernel_rfl; (apply Y_sub; rfl; rfl; omega); rfl)
    (apply DR.pure 5 #[true, true, true, true, true, true, false, false, false, false, false, false, false, false]; rfl; kernel_rfl; (apply Y_indexAddr; rfl; rfl; omega); rfl)
    (apply DR.take 6 #[true, true, true, true, true, true, true, false, false, false, false, false, false, false]; rfl; kernel_rfl; exact Y_loadP rfl fun w hw => (ly.ext0 hE).at_ hw.ext fun _ _ _ h => h; rfl; exact hS)
    (apply DR.pure 7 #[true, true, true, true, true, true, true, true, false, false, false, false, false, false]; rfl; kernel_rfl; (apply Y_move; rfl); rfl)
    (apply DR.pure 8 #[true, true, true, true, true, true, true, true, true, false, false, false, false, false]; rfl; kernel_rfl; (apply Y_move; rfl); rfl)
    (apply DR.pure 9 #[true, true, true, true, true, true, true, true, true, true, false, false, false, false]; rfl; kernel_rfl; (apply Y_indexAddr; rfl; rfl; omega); rfl)
    (apply DR.take 10 #[true, true, true, true, true, true, true, true, true, true, true, false, false, false]; rfl; kernel_rfl; exact Y_loadP rfl fun w hw => (lx.ext0 hE).at_ hw.ext fun _ _ _ h => h; rfl; exact hS)
    apply DR.callqC (cap := [.pointer (some ⟨kb, 0, none⟩)]) 11 #[true, true, true, true, true, true, true, true, true, true, true, true, false, false]; rfl; kernel_rfl; rfl; rfl; exact inferInstance; rfl; rfl; exact cmp_spec ((hk.ext hE id).ext hS.ext id) y x hoy hox; (intro w' hw'; exact hS.ext0 hw'); intro w9 hE9 hS
    (apply DR.pure 12 #[true, true, true, true, true, true, true, true, true, true, true, true, true, false]; rfl; kernel_rfl; (apply Y_lss; rfl; rfl); rfl)
    (apply DR.pure 13 #[true, true, true, true, true, true, true, true, true, true, true, true, true, true]; rfl; kernel_rfl; (first | (apply Y_not_d; rfl) | (apply Y_not; rfl)); rfl)
    refine DR.done (by kernel_rfl) ?_
    refine J.at (C := Cls _ _ _) ?_ hS
    refine J.cond_d rfl (fun hc => ?_) (fun hc => ?_)
    · have hlt' : mkey x ≤ mkey y := Int.not_lt.1 fun h => hc ((cmpI_neg _ _).2 h)
      repeat (first | (apply JL.y; (first | (apply Y_move; rfl) | (apply Y_assign; rfl) | (apply Y_add; rfl; rfl; omega)); rfl) | refine J.region ?_ | refine JL.nil ?_ | refine J.inBlock ?_)
      refine J.intro fun w2 hw2 => ih (v - (t + 1)) (by omega) _ _ w2 ?_ ⟨t + 1, v, a + t + 1, j, by omega, by omega, by omega, by omega, fun x' y' hx' hy' => ?_, hhi, by omega, by omega, rfl, hE.trans hw2.ext, rfl⟩
      · exact ⟨rfl, rfl, rfl, rfl, rfl, rfl, rfl, rfl, rfl, rfl, trivial⟩
      · rw [St.last_take hx] at hx'; cases hx'
        rw [St.head_drop, show mu - (t + 1) = mu - 1 - t by omega, hy] at hy'; cases hy'
        exact hlt'
    · have hlt' : mkey y < mkey x := (cmpI_neg _ _).1 (Classical.not_not.1 hc)
      repeat (first | (apply JL.y; (first | (apply Y_move; rfl) | (apply Y_assign; rfl)); rfl) | refine J.region ?_ | refine JL.nil ?_ | refine J.inBlock ?_)
      refine J.intro fun w2 hw2 => ih (t - u) (by omega) _ _ w2 ?_ ⟨u, t, i, a + t, by omega, by omega, by omega, by omega, hlo, fun y' x' hy' hx' => ?_, by omega, by omega, rfl, hE.trans hw2.ext, rfl⟩
      · exact ⟨rfl, rfl, rfl, rfl, rfl, rfl, rfl, rfl, rfl, rfl, trivial⟩
      · rw [St.head_drop, hx] at hx'; cases hx'
        rw [show mu - t = mu - 1 - t + 1 by omega, St.last_take hy] at hy'; cases hy'
        exact hlt'
  have huv' : v = u := by omega
  subst huv'
  have hA12 : A.take v ++ A.drop v = A := List.take_append_drop v A
  have hB12 : B.take (mu - v) ++ B.drop (mu - v) = B := List.take_append_drop _ B
  have hsp := St.merge_split (key := mkey) (A1 := A.take v) (A2 := A.drop v) (B1 := B.take (mu - v)) (B2 := B.drop (mu - v)) (by rw [hA12]; exact hsA) (by rw [hB12]; exact hsBB) hlo hhi
  rw [hA12, hB12] at hsp
  have sA12 := hsA
  have sB12 := hsBB
  rw [← hA12] at sA12
  rw [← hB12] at sB12
  obtain ⟨sA1, sA2, _⟩ := St.Srt.parts sA12
  obtain ⟨sB1, sB2, _⟩ := St.Srt.parts sB12
  have hA1l : (A.take v).length = v := by rw [List.length_take]; omega
  have hA2l : (A.drop v).length = A.length - v := by rw [List.length_drop]
  have hB1l : (B.take (mu - v)).length = mu - v := by rw [List.length_take]; omega
  have hB2l : (B.drop (mu - v)).length = B.length - (mu - v) := by rw [List.length_drop]
  have hlenAB : (P ++ A ++ B ++ Q).length = P.length + A.length + B.length + Q.length := hlen
  clear hlo hhi la lb ih hlo0 hhi0
  generalize A.take v = A1 at *
  generalize A.drop v = A2 at *
  generalize B.take (mu - v) = B1 at *
  generalize B.drop (mu - v) = B2 at *
  subst hA12
  subst hB12
  simp only [List.length_append] at hA1l hA2l hB1l hB2l hN hA hB hd hb hn hm hA2 hB2 hmu hvA hmB
  have hone2 : Ones (P ++ A1 ++ B1 ++ (A2 ++ B2 ++ Q)) := hone.of fun p hp => by grind
  repeat (first | (apply J.exit; rfl))
  refine J.seq ?_
  repeat (first | (apply JL.y; (first | (apply Y_move; rfl) | (apply Y_assign; rfl) | (apply Y_sub; rfl; rfl; omega)); rfl) | refine J.region ?_ | refine JL.nil ?_)
  refine J.seq ?_
  refine J.join (fun wx => Ext (fun k => k = g) w wx ∧ MRow wx (.slice (some ⟨g, 0, none⟩) m c) (P ++ A1 ++ B1 ++ (A2 ++ B2 ++ Q))) (fun e' => e' = [(0, .slice (some ⟨g, 0, none⟩) m c), (1, .int .i64 a), (3, .int .i64 b), (4, cmpV kb), (18, .int .i64 (a + mu)), (20, .int .i64 i), (24, .int .i64 (a + mu + d - i))]) (fun k' hjn => ?_) ?_
  · repeat (first | (apply JL.y; (first | (apply Y_move; rfl) | (apply Y_lss; rfl; rfl)); rfl) | refine J.seq ?_ | refine J.region ?_)
    by_cases c1 : i < d
    · rw [decide_eq_true c1]
      repeat (first | (apply JL.y; (first | (apply Y_move; rfl) | (apply Y_lss; rfl; rfl) | (apply Y_pick_t; rfl; rfl)); rfl) | refine JL.nil ?_ | (apply JL.guard_yes; rfl; rfl; rfl))
      refine J.cond_d rfl (fun c2 => ?_) (fun c2 => ?_)
      · repeat (first | (apply JL.y; (apply Y_move; rfl); rfl) | refine J.region ?_)
        refine JL.call (fun w2 v w3 => v = .tuple #[] ∧ Ext (fun k => k = g) w2 w3 ∧ MRow w3 (.slice (some ⟨g, 0, none⟩) m c) ((P ++ A1) ++ B1 ++ A2 ++ (B2 ++ Q))) rfl rfl (fun w2 hw2 => (rotate_spec (P := P ++ A1) (X := A2) (Y := B1) (Q := B2 ++ Q) ((hrow.ext0 (hE.trans hw2.ext)).eq (by simp)) (hone.of fun p hp => by grind) (by omega) (by omega) (by simp; omega) (by simp; omega) (by simp; omega) (by simp; omega)).mono fun e w' h => ⟨_, h.1, rfl, h.2⟩) fun w2 r w3 hw2 ⟨hr, hE3, hR3⟩ => ?_
        subst hr
        refine GL.of_JL (C := Cls w3 No []) (Cls.start _ _) ?_
        repeat (first | refine JL.nil ?_)
        exact J.imp (J.weak (hjn _ rfl) ⟨rfl, rfl, rfl, rfl, rfl, rfl, rfl, trivial⟩) fun wx hx => ⟨((hE.trans hw2.ext).no.trans hE3).trans hx.ext.no, (hR3.ext0 hx.ext).eq (by simp)⟩
      · have : B1 = [] := List.eq_nil_of_length_eq_zero (by omega)
        subst this
        repeat (first | refine J.skip ?_)
        exact J.imp (J.weak (hjn _ rfl) ⟨rfl, rfl, rfl, rfl, rfl, rfl, rfl, trivial⟩) fun wx hx => ⟨(hE.trans hx.ext).no, (hrow.ext0 (hE.trans hx.ext)).eq (by simp)⟩
    · rw [decide_eq_false c1]
      have : A2 = [] := List.eq_nil_of_length_eq_zero (by omega)
      subst this
      repeat (first | (apply JL.y; (apply Y_pick_f; rfl; rfl); rfl) | refine JL.nil ?_ | (apply JL.guard_no; rfl; rfl; rfl; rfl; rfl))
      refine J.cond_f rfl ?_
      repeat (first | refine J.skip ?_)
      exact J.imp (J.weak (hjn _ rfl) ⟨rfl, rfl, rfl, rfl, rfl, rfl, rfl, trivial⟩) fun wx hx => ⟨(hE.trans hx.ext).no, (hrow.ext0 (hE.trans hx.ext)).eq (by simp)⟩
  rintro e' rfl
  refine J.intro fun w2 ⟨hE2, hR2⟩ => J.at (C := Cls w2 No []) ?_ (Cls.start _ _)
  refine J.seq ?_
  refine J.join (fun wx => Ext (fun k => k = g) w wx ∧ MRow wx (.slice (some ⟨g, 0, none⟩) m c) ((P ++ St.srt mkey (A1 ++ B1)) ++ A2 ++ B2 ++ Q)) (fun e' => e' = [(0, .slice (some ⟨g, 0, none⟩) m c), (3, .int .i64 b), (4, cmpV kb), (18, .int .i64 (a + mu)), (24, .int .i64 (a + mu + d - i))]) (fun k' hjn => ?_) ?_
  · repeat (first | (apply JL.y; (first | (apply Y_move; rfl) | (apply Y_lss; rfl; rfl)); rfl) | refine J.seq ?_ | refine J.region ?_)
    by_cases c1 : a < i
    · rw [decide_eq_true c1]
      repeat (first | (apply JL.y; (first | (apply Y_move; rfl) | (apply Y_lss; rfl; rfl) | (apply Y_pick_t; rfl; rfl)); rfl) | refine JL.nil ?_ | (apply JL.guard_yes; rfl; rfl; rfl))
      refine J.cond_d rfl (fun c2 => ?_) (fun c2 => ?_)
      · repeat (first | (apply JL.y; (apply Y_move; rfl); rfl) | refine J.region ?_)
        refine JL.call (fun w3 v w4 => v = .tuple #[] ∧ Ext (fun k => k = g) w3 w4 ∧ MRow w4 (.slice (some ⟨g, 0, none⟩) m c) (P ++ St.srt mkey (A1 ++ B1) ++ (A2 ++ B2 ++ Q))) rfl rfl (fun w3 hw3 => (ihN (P := P) (A := A1) (B := B1) (Q := A2 ++ B2 ++ Q) (by omega) (hR2.ext0 hw3.ext) hone2 ((hk.ext hE2 hkb).ext hw3.ext id) hkb sA1 sB1 (by omega) (by omega) ha (by omega) (by omega) (by simp; omega)).mono fun e w' h => ⟨_, h.1, rfl, h.2⟩) fun w3 r w4 hw3 ⟨hr, hE4, hR4⟩ => ?_
        subst hr
        refine GL.of_JL (C := Cls w4 No []) (Cls.start _ _) ?_
        repeat (first | refine JL.nil ?_)
        exact J.imp (J.weak (hjn _ rfl) ⟨rfl, rfl, rfl, rfl, rfl, trivial⟩) fun wx hx => ⟨((hE2.trans hw3.ext.no).trans hE4).trans hx.ext.no, (hR4.ext0 hx.ext).eq (by simp)⟩
      · have : B1 = [] := List.eq_nil_of_length_eq_zero (by omega)
        subst this
        repeat (first | refine J.skip ?_)
        exact J.imp (J.weak (hjn _ rfl) ⟨rfl, rfl, rfl, rfl, rfl, trivial⟩) fun wx hx => ⟨hE2.trans hx.ext.no, (hR2.ext0 hx.ext).eq (by rw [List.append_nil A1, St.srt_id sA1]; simp)⟩
    · rw [decide_eq_false c1]
      have : A1 = [] := List.eq_nil_of_length_eq_zero (by omega)
      subst this
      repeat (first | (apply JL.y; (apply Y_pick_f; rfl; rfl); rfl) | refine JL.nil ?_ | (apply JL.guard_no; rfl; rfl; rfl; rfl; rfl))
      refine J.cond_f rfl ?_
      repeat (first | refine J.skip ?_)
      exact J.imp (J.weak (hjn _ rfl) ⟨rfl, rfl, rfl, rfl, rfl, trivial⟩) fun wx hx => ⟨hE2.trans hx.ext.no, (hR2.ext0 hx.ext).eq (by rw [List.nil_append B1, St.srt_id sB1]; simp)⟩
  rintro e' rfl
  refine J.intro fun w5 ⟨hE5, hR5⟩ => J.at (C := Cls w5 No []) ?_ (Cls.start _ _)
  have hone3 : Ones ((P ++ St.srt mkey (A1 ++ B1)) ++ A2 ++ B2 ++ Q) := hone.of fun p hp => by
    simp only [List.mem_append, St.srt_mem] at hp; grind
  have hPl : (P ++ St.srt mkey (A1 ++ B1)).length = P.length + A1.length + B1.length := by simp [St.srt_len, Nat.add_assoc]
  repeat (first | (apply JL.y; (first | (apply Y_move; rfl) | (apply Y_lss; rfl; rfl)); rfl) | refine J.seq ?_ | refine J.region ?_)
  by_cases c1 : a + mu < a + mu + d - i
  · rw [decide_eq_true c1]
    repeat (first | (apply JL.y; (first | (apply Y_move; rfl) | (apply Y_lss; rfl; rfl) | (apply Y_pick_t; rfl; rfl)); rfl) | refine JL.nil ?_ | (apply JL.guard_yes; rfl; rfl; rfl))
    refine J.cond_d rfl (fun c2 => ?_) (fun c2 => ?_)
    · repeat (first | (apply JL.y; (apply Y_move; rfl); rfl) | refine J.region ?_)
      refine JL.call (fun w3 v w4 => v = .tuple #[] ∧ Ext (fun k => k = g) w3 w4 ∧ MRow w4 (.slice (some ⟨g, 0, none⟩) m c) ((P ++ St.srt mkey (A1 ++ B1)) ++ St.srt mkey (A2 ++ B2) ++ Q)) rfl rfl (fun w3 hw3 => (ihN (P := P ++ St.srt mkey (A1 ++ B1)) (A := A2) (B := B2) (Q := Q) (by omega) (hR5.ext0 hw3.ext) hone3 ((hk.ext hE5 hkb).ext hw3.ext id) hkb sA2 sB2 (by omega) (by omega) (by omega) (by omega) (by omega) (by rw [List.length_append, List.length_append, List.length_append, hPl]; omega)).mono fun e w' h => ⟨_, h.1, rfl, h.2⟩) fun w3 r w4 hw3 ⟨hr, hE4, hR4⟩ => ?_
      subst hr
      refine GL.of_JL (C := Cls w4 No []) (Cls.start _ _) ?_
      repeat (first | refine JL.nil ?_)
      exact J.end0 Try.func167 Try.results167 fun w' hw => ⟨rfl, ((hE5.trans hw3.ext.no).trans hE4).trans hw.ext.no, (hR4.ext0 hw.ext).eq (by rw [← hsp]; simp)⟩
    · have : B2 = [] := List.eq_nil_of_length_eq_zero (by omega)
      subst this
      repeat (first | refine J.skip ?_)
      exact J.end0 Try.func167 Try.results167 fun w' hw => ⟨rfl, hE5.trans hw.ext.no, (hR5.ext0 hw.ext).eq (by rw [← hsp, List.append_nil A2, St.srt_id sA2]; simp)⟩
  · rw [decide_eq_false c1]
    have : A2 = [] := List.eq_nil_of_length_eq_zero (by omega)
    subst this
    repeat (first | (apply JL.y; (apply Y_pick_f; rfl; rfl); rfl) | refine JL.nil ?_ | (apply JL.guard_no; rfl; rfl; rfl; rfl; rfl))
    refine J.cond_f rfl ?_
    repeat (first | refine J.skip ?_)
    exact J.end0 Try.func167 Try.results167 fun w' hw => ⟨rfl, hE5.trans hw.ext.no, (hR5.ext0 hw.ext).eq (by rw [← hsp, List.nil_append B2, St.srt_id sB2]; simp)⟩
end
end Go.Proofs.Ytmkpbbdocndfbaa
