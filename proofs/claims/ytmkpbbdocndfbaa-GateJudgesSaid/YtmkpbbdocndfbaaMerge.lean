/- slices.symMergeCmpFunc of messages. -/
import Derived.Test.YtmkpbbdocndfbaaRot
import Derived.Test.YtmkpbbdocndfbaaMergeP
namespace Go.Proofs.Ytmkpbbdocndfbaa
open Go.RowKit Go.Proofs
attribute [local irreducible] Yl JL J G GL GA GQ DR

abbrev cmpV (kb : Nat) : Value := .func (.func 146) #[] #[.pointer (some ⟨kb, 0, none⟩)]
theorem Ones.of {ts ts' : List (Value × Msg)} (h : Ones ts) (hs : ∀ p, p ∈ ts' → p ∈ ts) : Ones ts' := fun p hp => h p (hs p hp)
theorem at_app {τ : Type} {P A R : List τ} {t : Nat} {x : τ} (h : A[t]? = some x) : (P ++ A ++ R)[P.length + t]? = some x := by
  rw [List.append_assoc, List.getElem?_append_right (by omega), Nat.add_sub_cancel_left, List.getElem?_append_left (List.getElem?_eq_some_iff.1 h).1, h]

section
variable {w : World} {g m c kb : Nat} {P A B Q : List (Value × Msg)} {a d b : Int}

set_option maxHeartbeats 2000000 in
/-- One ahead. -/
theorem symMerge_one {w : World} {P A B Q : List (Value × Msg)} {a d b : Int} (hrow : MRow w (.slice (some ⟨g, 0, none⟩) m c) (P ++ A ++ B ++ Q)) (hone : Ones (P ++ A ++ B ++ Q)) (hk : KeyAt kb w) (_ : kb ≠ g) (hsA : St.Srt mkey A) (hsBB : St.Srt mkey B) (hA : 0 < A.length) (hB : 0 < B.length)
    (ha : a = P.length) (hd : d = P.length + A.length) (hb : b = P.length + A.length + B.length) (hn : (P ++ A ++ B ++ Q).length ≤ 1000000) (hx1 : A.length = 1) :
    Calls Try.prog 167 #[.slice (some ⟨g, 0, none⟩) m c, .int .i64 a, .int .i64 d, .int .i64 b, cmpV kb] w
      fun e w' => e = .returned (.tuple #[]) ∧ Ext (fun k => k = g) w w' ∧ MRow w' (.slice (some ⟨g, 0, none⟩) m c) (P ++ St.srt mkey (A ++ B) ++ Q) := by
  have hm : m = (P ++ A ++ B ++ Q).length := by obtain ⟨A', c', hv, _⟩ := Row.slice hrow; cases hv; simp
  have hlen : (P ++ A ++ B ++ Q).length = P.length + A.length + B.length + Q.length := by simp [Nat.add_assoc]
  rw [hlen] at hm hn
  have la : ∀ {t : Nat} {x : Value × Msg}, A[t]? = some x → ∀ {q : Nat}, q = (P.length + t) * 5 → Foot (Lds Try.prog 33 ((⟨g, 0, none⟩ : Addr).add q) (.agg (msgC x.1 x.2).toArray)) w (fun k => k = g) := fun h q hq => (hrow.eq (by simp)).lds (at_app (R := B ++ Q) h) hq
  have lb : ∀ {t : Nat} {x : Value × Msg}, B[t]? = some x → ∀ {q : Nat}, q = (P.length + A.length + t) * 5 → Foot (Lds Try.prog 33 ((⟨g, 0, none⟩ : Addr).add q) (.agg (msgC x.1 x.2).toArray)) w (fun k => k = g) := fun h q hq => (hrow.eq (by simp)).lds (at_app (P := P ++ A) (R := Q) h) (by rw [hq]; simp)
  refine Calls.of_G5 Try.func167 rfl Try.ntmps167 rfl ?_
  refine J.at (C := Cls w No []) ?_ (Cls.start _ _)
  repeat (first | (apply JL.y; (first | (apply Y_move; rfl) | (apply Y_eql; rfl; rfl) | (apply Y_sub; rfl; rfl; omega)); rfl) | refine J.seq ?_ | refine J.region ?_ | refine JL.nil ?_)
  refine J.cond_d rfl (fun h1 => ?_) (fun h1 => by exfalso; omega)
  · obtain ⟨x, rfl⟩ : ∃ x, A = [x] := List.length_eq_one_iff.1 (by omega)
    have hox : x.1.oneCell' = true := hone x (by simp)
    have lx := la (t := 0) (x := x) rfl (q := a.toNat * 5) (by omega)
    simp only [List.length_cons, List.length_nil] at hm hd hb hn
    repeat (first | (apply JL.y; (first | (apply Y_move; rfl) | (apply Y_assign; rfl)); rfl) | refine J.seq ?_ | refine J.region ?_ | refine JL.nil ?_ | refine J.block ?_)
    refine J.intro fun wl hwl => G.loop (Inv := fun mm e wl => ∃ (r s : Nat) (i j : Int), r ≤ s ∧ s ≤ B.length ∧ (∀ y, (B.take r).getLast? = some y → mkey y < mkey x) ∧ (∀ y, (B.drop s).head? = some y → mkey x ≤ mkey y) ∧ i = d + r ∧ j = d + s ∧ mm = s - r ∧ Ext No w wl ∧ e = [(0, .slice (some ⟨g, 0, none⟩) m c), (1, .int .i64 a), (4, cmpV kb), (10, .int .i64 i), (11, .int .i64 j)])
      _ _ ⟨0, B.length, _, _, by omega, by omega, by simp, by simp, by omega, by omega, rfl, hwl.ext, rfl⟩ ⟨rfl, rfl, rfl, rfl, rfl, trivial⟩ ?_
    rintro mm e w1 ⟨r, s, i, j, hrs, hsB, hlo, hhi, hi, hj, rfl, hE, rfl⟩ ih
    refine J.at (C := Cls w1 No []) ?_ (Cls.start _ _)
    repeat (first | (apply JL.y; (first | (apply Y_move; rfl) | (apply Y_lss; rfl; rfl)); rfl) | refine J.seq ?_ | refine J.region ?_ | refine JL.nil ?_)
    refine J.cond_d rfl (fun hlt => ?_) (fun hlt => ?_)
    · repeat (first | (apply JL.y; (first | (apply Y_move; rfl) | (apply Y_assign; rfl) | (apply Y_add; rfl; rfl; omega) | (apply Y_half; rfl) | (apply Y_convU; rfl; omega) | (apply Y_convI; rfl; omega)); rfl) | refine J.seq ?_ | refine J.region ?_ | refine JL.nil ?_ | refine J.skip ?_ | refine J.block ?_)
      obtain ⟨y, hy⟩ : ∃ y, B[(r + s) / 2]? = some y := ⟨_, List.getElem?_eq_getElem (by omega)⟩
      have hoy : y.1.oneCell' = true := hone y (by simp [List.mem_of_getElem? hy])
      have ly := lb hy (q := ((i + j) / 2).toNat * 5) (by simp; omega)
      refine J.draw (S := Cls _ _ _) [] #[false, false, false, false, false, false, false, false, false, false, false] rfl rfl (fun w hw => hw.drew) (fun w hS => ?_)
      (apply DR.pure 0 #[true, false, false, false, false, false, false, false, false, false, false]; rfl; kernel_rfl; (apply Y_move; rfl); rfl)
      (apply DR.pure 1 #[true, true, false, false, false, false, false, false, false, false, false]; rfl; kernel_rfl; (apply Y_move; rfl); rfl)
      (apply DR.pure 2 #[true, true, true, false, false, false, false, false, false, false, false]; rfl; kernel_rfl; (apply Y_move; rfl); rfl)
      (apply DR.pure 3 #[true, true, true, true, false, false, false, false, false, false, false]; rfl; kernel_rfl; (apply Y_indexAddr; rfl; rfl; omega); rfl)
      (apply DR.take 4 #[true, true, true, true, true, false, false, false, false, false, false]; rfl; kernel_rfl; exact Y_loadP rfl fun w hw => (ly.ext0 hE).at_ hw.ext fun _ _ _ h => h; rfl; exact hS)
      (apply DR.pure 5 #[true, true, true, true, true, true, false, false, false, false, false]; rfl; kernel_rfl; (apply Y_move; rfl); rfl)
      (apply DR.pure 6 #[true, true, true, true, true, true, true, false, false, false, false]; rfl; kernel_rfl; (apply Y_move; rfl); rfl)
      (apply DR.pure 7 #[true, true, true, true, true, true, true, true, false, false, false]; rfl; kernel_rfl; (apply Y_indexAddr; rfl; rfl; omega); rfl)
      (apply DR.take 8 #[true, true, true, true, true, true, true, true, true, false, false]; rfl; kernel_rfl; exact Y_loadP rfl fun w hw => (lx.ext0 hE).at_ hw.ext fun _ _ _ h => h; rfl; exact hS)
      apply DR.callqC (cap := [.pointer (some ⟨kb, 0, none⟩)]) 9 #[true, true, true, true, true, true, true, true, true, true, false]; rfl; kernel_rfl; rfl; rfl; exact inferInstance; rfl; rfl; exact cmp_spec ((hk.ext hE id).ext hS.ext id) y x hoy hox; (intro w' hw'; exact hS.ext0 hw'); intro w9 hE9 hS
      (apply DR.pure 10 #[true, true, true, true, true, true, true, true, true, true, true]; rfl; kernel_rfl; (apply Y_lss; rfl; rfl); rfl)
      refine DR.done (by kernel_rfl) ?_
      refine J.at (C := Cls _ _ _) ?_ hS
      refine J.cond_d rfl (fun hc => ?_) (fun hc => ?_)
      · have hlt' : mkey y < mkey x := (cmpI_neg _ _).1 hc
        repeat (first | (apply JL.y; (first | (apply Y_move; rfl) | (apply Y_assign; rfl) | (apply Y_add; rfl; rfl; omega)); rfl) | refine J.region ?_ | refine JL.nil ?_ | refine J.inBlock ?_)
        refine J.intro fun w2 hw2 => ih (s - ((r + s) / 2 + 1)) (by omega) _ _ w2 ?_ ⟨(r + s) / 2 + 1, s, (i + j) / 2 + 1, j, by omega, by omega, fun z hz => ?_, hhi, by omega, hj, rfl, hE.trans hw2.ext, rfl⟩
        · exact ⟨rfl, rfl, rfl, rfl, rfl, trivial⟩
        · rw [St.last_take hy] at hz; cases hz; exact hlt'
      · have hlt' : mkey x ≤ mkey y := Int.not_lt.1 fun h => hc ((cmpI_neg _ _).2 h)
        repeat (first | (apply JL.y; (first | (apply Y_move; rfl) | (apply Y_assign; rfl)); rfl) | refine J.region ?_ | refine JL.nil ?_ | refine J.inBlock ?_)
        refine J.intro fun w2 hw2 => ih ((r + s) / 2 - r) (by omega) _ _ w2 ?_ ⟨r, (r + s) / 2, i, (i + j) / 2, by omega, by omega, hlo, fun z hz => ?_, hi, by omega, rfl, hE.trans hw2.ext, rfl⟩
        · exact ⟨rfl, rfl, rfl, rfl, rfl, trivial⟩
        · rw [St.head_drop, hy] at hz; cases hz; exact hlt'
    · have hrs' : s = r := by omega
      subst hrs'
      have hB12 : B.take s ++ B.drop s = B := List.take_append_drop s B
      have hres := St.merge_one (key := mkey) (x := x) (B1 := B.take s) (B2 := B.drop s) (by rw [hB12]; exact hsBB) hlo hhi
      rw [hB12] at hres
      have hBl : (B.take s).length = s := by rw [List.length_take]; omega
      generalize B.take s = B1 at *
      generalize B.drop s = B2 at *
      repeat (first | (apply JL.y; (first | (apply Y_move; rfl) | (apply Y_assign; rfl)); rfl) | refine J.seq ?_ | refine J.region ?_ | refine JL.nil ?_ | refine J.block ?_ | (apply J.exit; rfl))
      refine J.intro fun w2 hw2 => G.loop (Inv := fun mm e wl => ∃ (T1 T2 : List (Value × Msg)) (k : Int), B1 = T1 ++ T2 ∧ k = a + T1.length ∧ mm = T2.length ∧ Ext (fun k => k = g) w wl ∧ MRow wl (.slice (some ⟨g, 0, none⟩) m c) ((P ++ T1) ++ x :: (T2 ++ B2 ++ Q)) ∧ e = [(0, .slice (some ⟨g, 0, none⟩) m c), (10, .int .i64 i), (13, .int .i64 k)])
        _ _ ⟨[], B1, _, rfl, by simp, rfl, (hE.trans hw2.ext).no, ((hrow.ext0 hE).ext0 hw2.ext).eq (by rw [← hB12]; simp), rfl⟩ ⟨rfl, rfl, rfl, trivial⟩ ?_
      rintro mm e w3 ⟨T1, T2, k, rfl, hk1, rfl, hE3, hR3, rfl⟩ ih2
      refine J.at (C := Cls w3 No []) ?_ (Cls.start _ _)
      have hT : (T1 ++ T2).length = T1.length + T2.length := by simp
      have hPT : (P ++ T1).length = P.length + T1.length := by simp
      repeat (first | (apply JL.y; (first | (apply Y_move; rfl) | (apply Y_lss; rfl; rfl) | (apply Y_sub; rfl; rfl; omega)); rfl) | refine J.seq ?_ | refine J.region ?_ | refine JL.nil ?_)
      refine J.cond_d rfl (fun hlt2 => ?_) (fun hlt2 => ?_)
      case refine_2 =>
        have h1 : T2 = [] := List.eq_nil_of_length_eq_zero (by omega)
        subst h1
        repeat (first | (apply J.exit; rfl))
        exact J.ret0 Try.func167 Try.results167 fun w' hw => ⟨rfl, hE3.trans hw.ext.no, (hR3.ext0 hw.ext).eq (by rw [hres]; simp)⟩
      cases T2 with
      | nil => simp at hBl; omega
      | cons y T2 =>
      have hoy : y.1.oneCell' = true := hone y (by rw [← hB12]; simp)
      have lx3 := hR3.lds (get_mid _ _ _) (q := k.toNat * 5) (by omega)
      have ly3 := (hR3.eq (by simp)).lds (far_2 (P ++ T1) x [] y (T2 ++ B2 ++ Q) rfl) (q := (k + 1).toNat * 5) (by simp; omega)
      have hR3' := hR3.eq (ts' := (P ++ T1) ++ x :: y :: (T2 ++ B2 ++ Q)) (by simp)
      have hBQ : B.length + Q.length ≤ 1000000 := by omega
      have hBB := congrArg List.length hB12
      simp only [List.length_append, List.length_cons] at hBB hT hBl
      repeat (first | refine J.seq ?_ | refine J.skip ?_ | refine J.block ?_)
      refine J.draw (S := Cls _ _ _) [15, 17] #[false, false, false, false, false, false, false, false, false, false, false, false, false, false, false, false, false, false] rfl rfl (fun w hw => hw.drew) (fun w hS => ?_)
      (apply DR.pure 0 #[true, false, false, false, false, false, false, false, false, false, false, false, false, false, false, false, false, false]; rfl; kernel_rfl; (apply Y_move; rfl); rfl)
      (apply DR.pure 1 #[true, true, false, false, false, false, false, false, false, false, false, false, false, false, false, false, false, false]; rfl; kernel_rfl; (apply Y_move; rfl); rfl)
      (apply DR.pure 2 #[true, true, true, false, false, false, false, false, false, false, false, false, false, false, false, false, false, false]; rfl; kernel_rfl; (apply Y_move; rfl); rfl)
      (apply DR.pure 3 #[true, true, true, true, false, false, false, false, false, false, false, false, false, false, false, false, false, false]; rfl; kernel_rfl; (apply Y_move; rfl); rfl)
      (apply DR.pure 4 #[true, true, true, true, true, false, false, false, false, false, false, false, false, false, false, false, false, false]; rfl; kernel_rfl; (apply Y_add; rfl; rfl; omega); rfl)
      (apply DR.pure 5 #[true, true, true, true, true, true, false, false, false, false, false, false, false, false, false, false, false, false]; rfl; kernel_rfl; (apply Y_move; rfl); rfl)
      (apply DR.pure 6 #[true, true, true, true, true, true, true, false, false, false, false, false, false, false, false, false, false, false]; rfl; kernel_rfl; (apply Y_move; rfl); rfl)
      (apply DR.pure 7 #[true, true, true, true, true, true, true, true, false, false, false, false, false, false, false, false, false, false]; rfl; kernel_rfl; (apply Y_add; rfl; rfl; omega); rfl)
      (apply DR.pure 8 #[true, true, true, true, true, true, true, true, true, false, false, false, false, false, false, false, false, false]; rfl; kernel_rfl; (apply Y_indexAddr; rfl; rfl; omega); rfl)
      (apply DR.take 9 #[true, true, true, true, true, true, true, true, true, true, false, false, false, false, false, false, false, false]; rfl; kernel_rfl; exact Y_loadP rfl fun w hw => ly3.at_ hw.ext fun _ _ _ h => h; rfl; exact hS)
      (apply DR.pure 10 #[true, true, true, true, true, true, true, true, true, true, true, false, false, false, false, false, false, false]; rfl; kernel_rfl; (apply Y_move; rfl); rfl)
      (apply DR.pure 11 #[true, true, true, true, true, true, true, true, true, true, true, true, false, false, false, false, false, false]; rfl; kernel_rfl; (apply Y_move; rfl); rfl)
      (apply DR.pure 12 #[true, true, true, true, true, true, true, true, true, true, true, true, true, false, false, false, false, false]; rfl; kernel_rfl; (apply Y_indexAddr; rfl; rfl; omega); rfl)
      (apply DR.take 13 #[true, true, true, true, true, true, true, true, true, true, true, true, true, true, false, false, false, false]; rfl; kernel_rfl; exact Y_loadP rfl fun w hw => lx3.at_ hw.ext fun _ _ _ h => h; rfl; exact hS)
      (apply DR.pure 14 #[true, true, true, true, true, true, true, true, true, true, true, true, true, true, true, false, false, false]; rfl; kernel_rfl; (apply Y_indexAddr; rfl; rfl; omega); rfl)
      refine DR.rowStore 15 #[true, true, true, true, true, true, true, true, true, true, true, true, true, true, true, true, false, false] rfl (by kernel_rfl) rfl _ rfl rfl (MRow.set (hR3'.ext0 hS.ext) (i := (P ++ T1).length) (by simp) hoy (by omega)) (fun w5 ⟨hR5, hE5⟩ => ?_)
      (apply DR.pure 16 #[true, true, true, true, true, true, true, true, true, true, true, true, true, true, true, true, true, false]; rfl; kernel_rfl; (apply Y_indexAddr; rfl; rfl; omega); rfl)
      refine DR.rowStore 17 #[true, true, true, true, true, true, true, true, true, true, true, true, true, true, true, true, true, true] rfl (by kernel_rfl) rfl _ rfl rfl (MRow.set hR5 (i := (P ++ T1).length + 1) (by simp; omega) hox (by omega)) (fun w6 ⟨hR6, hE6⟩ => ?_)
      refine DR.done (by kernel_rfl) ?_
      refine J.at (C := Cls w6 No []) ?_ (Cls.start _ _)
      have hE36 : Ext (fun k => k = g) w3 w6 := (hS.ext.no.trans hE5).trans hE6
      repeat (first | (apply JL.y; (first | (apply Y_move; rfl) | (apply Y_assign; rfl) | (apply Y_add; rfl; rfl; omega)); rfl) | refine J.region ?_ | refine JL.nil ?_ | refine J.inBlock ?_)
      refine J.intro fun w7 hw7 => ih2 T2.length (by simp) _ _ w7 ?_ ⟨T1 ++ [y], T2, k + 1, by simp, by simp; omega, rfl, (hE3.trans hE36).trans hw7.ext.no, (hR6.ext0 hw7.ext).eq ?_, rfl⟩
      · exact ⟨rfl, rfl, rfl, trivial⟩
      · rw [swap_mid' _ _ _ _ rfl rfl]; simp

set_option maxHeartbeats 2000000 in
/-- One behind. -/
theorem symMerge_end {w : World} {P A B Q : List (Value × Msg)} {a d b : Int} (hrow : MRow w (.slice (some ⟨g, 0, none⟩) m c) (P ++ A ++ B ++ Q)) (hone : Ones (P ++ A ++ B ++ Q)) (hk : KeyAt kb w) (_ : kb ≠ g) (hsA : St.Srt mkey A) (hsBB : St.Srt mkey B) (hA : 0 < A.length) (hB : 0 < B.length)
    (ha : a = P.length) (hd : d = P.length + A.length) (hb : b = P.length + A.length + B.length) (hn : (P ++ A ++ B ++ Q).length ≤ 1000000) (hx1 : A.length ≠ 1) (hx2 : B.length = 1) :
    Calls Try.prog 167 #[.slice (some ⟨g, 0, none⟩) m c, .int .i64 a, .int .i64 d, .int .i64 b, cmpV kb] w
      fun e w' => e = .returned (.tuple #[]) ∧ Ext (fun k => k = g) w w' ∧ MRow w' (.slice (some ⟨g, 0, none⟩) m c) (P ++ St.srt mkey (A ++ B) ++ Q) := by
  have hm : m = (P ++ A ++ B ++ Q).length := by obtain ⟨A', c', hv, _⟩ := Row.slice hrow; cases hv; simp
  have hlen : (P ++ A ++ B ++ Q).length = P.length + A.length + B.length + Q.length := by simp [Nat.add_assoc]
  rw [hlen] at hm hn
  have la : ∀ {t : Nat} {x : Value × Msg}, A[t]? = some x → ∀ {q : Nat}, q = (P.length + t) * 5 → Foot (Lds Try.prog 33 ((⟨g, 0, none⟩ : Addr).add q) (.agg (msgC x.1 x.2).toArray)) w (fun k => k = g) := fun h q hq => (hrow.eq (by simp)).lds (at_app (R := B ++ Q) h) hq
  have lb : ∀ {t : Nat} {x : Value × Msg}, B[t]? = some x → ∀ {q : Nat}, q = (P.length + A.length + t) * 5 → Foot (Lds Try.prog 33 ((⟨g, 0, none⟩ : Addr).add q) (.agg (msgC x.1 x.2).toArray)) w (fun k => k = g) := fun h q hq => (hrow.eq (by simp)).lds (at_app (P := P ++ A) (R := Q) h) (by rw [hq]; simp)
  refine Calls.of_G5 Try.func167 rfl Try.ntmps167 rfl ?_
  refine J.at (C := Cls w No []) ?_ (Cls.start _ _)
  repeat (first | (apply JL.y; (first | (apply Y_move; rfl) | (apply Y_eql; rfl; rfl) | (apply Y_sub; rfl; rfl; omega)); rfl) | refine J.seq ?_ | refine J.region ?_ | refine JL.nil ?_)
  refine J.cond_d rfl (fun h1 => by exfalso; omega) (fun h1 => ?_)
  repeat (first | (apply JL.y; (first | (apply Y_move; rfl) | (apply Y_eql; rfl; rfl) | (apply Y_sub; rfl; rfl; omega)); rfl) | refine J.seq ?_ | refine J.region ?_ | refine JL.nil ?_ | refine J.skip ?_)
  refine J.cond_d rfl (fun h2 => ?_) (fun h2 => by exfalso; omega)
  · obtain ⟨y, rfl⟩ : ∃ y, B = [y] := List.length_eq_one_iff.1 (by omega)
    have hoy : y.1.oneCell' = true := hone y (by simp)
    have ly := lb (t := 0) (x := y) rfl (q := d.toNat * 5) (by omega)
    simp only [List.length_cons, List.length_nil] at hm hb hn
    repeat (first | (apply JL.y; (first | (apply Y_move; rfl) | (apply Y_assign; rfl)); rfl) | refine J.seq ?_ | refine J.region ?_ | refine JL.nil ?_ | refine J.block ?_)
    refine J.intro fun wl hwl => G.loop (Inv := fun mm e wl => ∃ (r s : Nat) (i j : Int), r ≤ s ∧ s ≤ A.length ∧ (∀ x, (A.take r).getLast? = some x → mkey x ≤ mkey y) ∧ (∀ x, (A.drop s).head? = some x → mkey y < mkey x) ∧ i = a + r ∧ j = a + s ∧ mm = s - r ∧ Ext No w wl ∧ e = [(0, .slice (some ⟨g, 0, none⟩) m c), (2, .int .i64 d), (4, cmpV kb), (14, .int .i64 i), (15, .int .i64 j)])
      _ _ ⟨0, A.length, _, _, by omega, by omega, by simp, by simp, by omega, by omega, rfl, hwl.ext, rfl⟩ ⟨rfl, rfl, rfl, rfl, rfl, trivial⟩ ?_
    rintro mm e w1 ⟨r, s, i, j, hrs, hsB, hlo, hhi, hi, hj, rfl, hE, rfl⟩ ih
    refine J.at (C := Cls w1 No []) ?_ (Cls.start _ _)
    repeat (first | (apply JL.y; (first | (apply Y_move; rfl) | (apply Y_lss; rfl; rfl)); rfl) | refine J.seq ?_ | refine J.region ?_ | refine JL.nil ?_)
    refine J.cond_d rfl (fun hlt => ?_) (fun hlt => ?_)
    · repeat (first | (apply JL.y; (first | (apply Y_move; rfl) | (apply Y_assign; rfl) | (apply Y_add; rfl; rfl; omega) | (apply Y_half; rfl) | (apply Y_convU; rfl; omega) | (apply Y_convI; rfl; omega)); rfl) | refine J.seq ?_ | refine J.region ?_ | refine JL.nil ?_ | refine J.skip ?_ | refine J.block ?_)
      obtain ⟨x, hx⟩ : ∃ x, A[(r + s) / 2]? = some x := ⟨_, List.getElem?_eq_getElem (by omega)⟩
      have hox : x.1.oneCell' = true := hone x (by simp [List.mem_of_getElem? hx])
      have lx := la hx (q := ((i + j) / 2).toNat * 5) (by omega)
      refine J.draw (S := Cls _ _ _) [] #[false, false, false, false, false, false, false, false, false, false, false, false] rfl rfl (fun w hw => hw.drew) (fun w hS => ?_)
      (apply DR.pure 0 #[true, false, false, false, false, false, false, false, false, false, false, false]; rfl; kernel_rfl; (apply Y_move; rfl); rfl)
      (apply DR.pure 1 #[true, true, false, false, false, false, false, false, false, false, false, false]; rfl; kernel_rfl; (apply Y_move; rfl); rfl)
      (apply DR.pure 2 #[true, true, true, false, false, false, false, false, false, false, false, false]; rfl; kernel_rfl; (apply Y_move; rfl); rfl)
      (apply DR.pure 3 #[true, true, true, true, false, false, false, false, false, false, false, false]; rfl; kernel_rfl; (apply Y_indexAddr; rfl; rfl; omega); rfl)
      (apply DR.take 4 #[true, true, true, true, true, false, false, false, false, false, false, false]; rfl; kernel_rfl; exact Y_loadP rfl fun w hw => (ly.ext0 hE).at_ hw.ext fun _ _ _ h => h; rfl; exact hS)
      (apply DR.pure 5 #[true, true, true, true, true, true, false, false, false, false, false, false]; rfl; kernel_rfl; (apply Y_move; rfl); rfl)
      (apply DR.pure 6 #[true, true, true, true, true, true, true, false, false, false, false, false]; rfl; kernel_rfl; (apply Y_move; rfl); rfl)
      (apply DR.pure 7 #[true, true, true, true, true, true, true, true, false, false, false, false]; rfl; kernel_rfl; (apply Y_indexAddr; rfl; rfl; omega); rfl)
      (apply DR.take 8 #[true, true, true, true, true, true, true, true, true, false, false, false]; rfl; kernel_rfl; exact Y_loadP rfl fun w hw => (lx.ext0 hE).at_ hw.ext fun _ _ _ h => h; rfl; exact hS)
      apply DR.callqC (cap := [.pointer (some ⟨kb, 0, none⟩)]) 9 #[true, true, true, true, true, true, true, true, true, true, false, false]; rfl; kernel_rfl; rfl; rfl; exact inferInstance; rfl; rfl; exact cmp_spec ((hk.ext hE id).ext hS.ext id) y x hoy hox; (intro w' hw'; exact hS.ext0 hw'); intro w9 hE9 hS
      (apply DR.pure 10 #[true, true, true, true, true, true, true, true, true, true, true, false]; rfl; kernel_rfl; (apply Y_lss; rfl; rfl); rfl)
      (apply DR.pure 11 #[true, true, true, true, true, true, true, true, true, true, true, true]; rfl; kernel_rfl; (first | (apply Y_not_d; rfl) | (apply Y_not; rfl)); rfl)
      refine DR.done (by kernel_rfl) ?_
      refine J.at (C := Cls _ _ _) ?_ hS
      refine J.cond_d rfl (fun hc => ?_) (fun hc => ?_)
      · have hlt' : mkey x ≤ mkey y := Int.not_lt.1 fun h => hc ((cmpI_neg _ _).2 h)
        repeat (first | (apply JL.y; (first | (apply Y_move; rfl) | (apply Y_assign; rfl) | (apply Y_add; rfl; rfl; omega)); rfl) | refine J.region ?_ | refine JL.nil ?_ | refine J.inBlock ?_)
        refine J.intro fun w2 hw2 => ih (s - ((r + s) / 2 + 1)) (by omega) _ _ w2 ?_ ⟨(r + s) / 2 + 1, s, (i + j) / 2 + 1, j, by omega, by omega, fun z hz => ?_, hhi, by omega, hj, rfl, hE.trans hw2.ext, rfl⟩
        · exact ⟨rfl, rfl, rfl, rfl, rfl, trivial⟩
        · rw [St.last_take hx] at hz; cases hz; exact hlt'
      · have hlt' : mkey y < mkey x := (cmpI_neg _ _).1 (Classical.not_not.1 hc)
        repeat (first | (apply JL.y; (first | (apply Y_move; rfl) | (apply Y_assign; rfl)); rfl) | refine J.region ?_ | refine JL.nil ?_ | refine J.inBlock ?_)
        refine J.intro fun w2 hw2 => ih ((r + s) / 2 - r) (by omega) _ _ w2 ?_ ⟨r, (r + s) / 2, i, (i + j) / 2, by omega, by omega, hlo, fun z hz => ?_, hi, by omega, rfl, hE.trans hw2.ext, rfl⟩
        · exact ⟨rfl, rfl, rfl, rfl, rfl, trivial⟩
        · rw [St.head_drop, hx] at hz; cases hz; exact hlt'
    · have hrs' : s = r := by omega
      subst hrs'
      have hA12 : A.take s ++ A.drop s = A := List.take_append_drop s A
      have hres := St.merge_end (key := mkey) (y := y) (A1 := A.take s) (A2 := A.drop s) (by rw [hA12]; exact hsA) hlo hhi
      rw [hA12] at hres
      have hAl : (A.take s).length = s := by rw [List.length_take]; omega
      have hAl2 : (A.drop s).length = A.length - s := by rw [List.length_drop]
      generalize A.take s = A1 at *
      generalize A.drop s = A2 at *
      repeat (first | (apply JL.y; (first | (apply Y_move; rfl) | (apply Y_assign; rfl)); rfl) | refine J.seq ?_ | refine J.region ?_ | refine JL.nil ?_ | refine J.block ?_ | (apply J.exit; rfl))
      refine J.intro fun w2 hw2 => G.loop (Inv := fun mm e wl => ∃ (T1 T2 : List (Value × Msg)) (k : Int), A2 = T1 ++ T2 ∧ k = a + s + T1.length ∧ mm = T1.length ∧ Ext (fun k => k = g) w wl ∧ MRow wl (.slice (some ⟨g, 0, none⟩) m c) ((P ++ A1 ++ T1) ++ y :: (T2 ++ Q)) ∧ e = [(0, .slice (some ⟨g, 0, none⟩) m c), (14, .int .i64 i), (17, .int .i64 k)])
        _ _ ⟨A2, [], _, by simp, by omega, rfl, (hE.trans hw2.ext).no, ((hrow.ext0 hE).ext0 hw2.ext).eq (by rw [← hA12]; simp), rfl⟩ ⟨rfl, rfl, rfl, trivial⟩ ?_
      rintro mm e w3 ⟨T1, T2, k, rfl, hk1, rfl, hE3, hR3, rfl⟩ ih2
      refine J.at (C := Cls w3 No []) ?_ (Cls.start _ _)
      have hT : (T1 ++ T2).length = T1.length + T2.length := by simp
      repeat (first | (apply JL.y; (first | (apply Y_move; rfl) | (apply Y_gtr; rfl; rfl)); rfl) | refine J.seq ?_ | refine J.region ?_ | refine JL.nil ?_)
      refine J.cond_d rfl (fun hlt2 => ?_) (fun hlt2 => ?_)
      case refine_2 =>
        have h1 : T1 = [] := List.eq_nil_of_length_eq_zero (by omega)
        subst h1
        repeat (first | (apply J.exit; rfl))
        exact J.ret0 Try.func167 Try.results167 fun w' hw => ⟨rfl, hE3.trans hw.ext.no, (hR3.ext0 hw.ext).eq (by rw [hres]; simp)⟩
      rcases List.eq_nil_or_concat T1 with rfl | ⟨T1', z, rfl⟩
      · simp at hk1; omega
      rw [List.concat_eq_append] at *
      have hz1 : (T1' ++ [z]).length = T1'.length + 1 := by simp
      have hz2 : (P ++ A1 ++ T1').length = P.length + A1.length + T1'.length := by simp [Nat.add_assoc]
      have hoz : z.1.oneCell' = true := hone z (by rw [← hA12]; simp)
      have hR3' := hR3.eq (ts' := (P ++ A1 ++ T1') ++ z :: y :: (T2 ++ Q)) (by simp)
      have lz3 := hR3'.lds (get_mid _ _ _) (q := (k - 1).toNat * 5) (by omega)
      have ly3 := (hR3'.eq (by simp)).lds (far_2 (P ++ A1 ++ T1') z [] y (T2 ++ Q) rfl) (q := k.toNat * 5) (by simp; omega)
      repeat (first | refine J.seq ?_ | refine J.skip ?_ | refine J.block ?_)
      refine J.draw (S := Cls _ _ _) [15, 17] #[false, false, false, false, false, false, false, false, false, false, false, false, false, false, false, false, false, false] rfl rfl (fun w hw => hw.drew) (fun w hS => ?_)
      (apply DR.pure 0 #[true, false, false, false, false, false, false, false, false, false, false, false, false, false, false, false, false, false]; rfl; kernel_rfl; (apply Y_move; rfl); rfl)
      (apply DR.pure 1 #[true, true, false, false, false, false, false, false, false, false, false, false, false, false, false, false, false, false]; rfl; kernel_rfl; (apply Y_move; rfl); rfl)
      (apply DR.pure 2 #[true, true, true, false, false, false, false, false, false, false, false, false, false, false, false, false, false, false]; rfl; kernel_rfl; (apply Y_move; rfl); rfl)
      (apply DR.pure 3 #[true, true, true, true, false, false, false, false, false, false, false, false, false, false, false, false, false, false]; rfl; kernel_rfl; (apply Y_move; rfl); rfl)
      (apply DR.pure 4 #[true, true, true, true, true, false, false, false, false, false, false, false, false, false, false, false, false, false]; rfl; kernel_rfl; (apply Y_sub; rfl; rfl; omega); rfl)
      (apply DR.pure 5 #[true, true, true, true, true, true, false, false, false, false, false, false, false, false, false, false, false, false]; rfl; kernel_rfl; (apply Y_move; rfl); rfl)
      (apply DR.pure 6 #[true, true, true, true, true, true, true, false, false, false, false, false, false, false, false, false, false, false]; rfl; kernel_rfl; (apply Y_move; rfl); rfl)
      (apply DR.pure 7 #[true, true, true, true, true, true, true, true, false, false, false, false, false, false, false, false, false, false]; rfl; kernel_rfl; (apply Y_sub; rfl; rfl; omega); rfl)
      (apply DR.pure 8 #[true, true, true, true, true, true, true, true, true, false, false, false, false, false, false, false, false, false]; rfl; kernel_rfl; (apply Y_indexAddr; rfl; rfl; omega); rfl)
      (apply DR.take 9 #[true, true, true, true, true, true, true, true, true, true, false, false, false, false, false, false, false, false]; rfl; kernel_rfl; exact Y_loadP rfl fun w hw => lz3.at_ hw.ext fun _ _ _ h => h; rfl; exact hS)
      (apply DR.pure 10 #[true, true, true, true, true, true, true, true, true, true, true, false, false, false, false, false, false, false]; rfl; kernel_rfl; (apply Y_move; rfl); rfl)
      (apply DR.pure 11 #[true, true, true, true, true, true, true, true, true, true, true, true, false, false, false, false, false, false]; rfl; kernel_rfl; (apply Y_move; rfl); rfl)
      (apply DR.pure 12 #[true, true, true, true, true, true, true, true, true, true, true, true, true, false, false, false, false, false]; rfl; kernel_rfl; (apply Y_indexAddr; rfl; rfl; omega); rfl)
      (apply DR.take 13 #[true, true, true, true, true, true, true, true, true, true, true, true, true, true, false, false, false, false]; rfl; kernel_rfl; exact Y_loadP rfl fun w hw => ly3.at_ hw.ext fun _ _ _ h => h; rfl; exact hS)
      (apply DR.pure 14 #[true, true, true, true, true, true, true, true, true, true, true, true, true, true, true, false, false, false]; rfl; kernel_rfl; (apply Y_indexAddr; rfl; rfl; omega); rfl)
      refine DR.rowStore 15 #[true, true, true, true, true, true, true, true, true, true, true, true, true, true, true, true, false, false] rfl (by kernel_rfl) rfl _ rfl rfl (MRow.set (hR3'.ext0 hS.ext) (i := (P ++ A1 ++ T1').length + 1) (by simp; omega) hoz (by omega)) (fun w5 ⟨hR5, hE5⟩ => ?_)
      (apply DR.pure 16 #[true, true, true, true, true, true, true, true, true, true, true, true, true, true, true, true, true, false]; rfl; kernel_rfl; (apply Y_indexAddr; rfl; rfl; omega); rfl)
      refine DR.rowStore 17 #[true, true, true, true, true, true, true, true, true, true, true, true, true, true, true, true, true, true] rfl (by kernel_rfl) rfl _ rfl rfl (MRow.set hR5 (i := (P ++ A1 ++ T1').length) (by simp) hoy (by omega)) (fun w6 ⟨hR6, hE6⟩ => ?_)
      refine DR.done (by kernel_rfl) ?_
      refine J.at (C := Cls w6 No []) ?_ (Cls.start _ _)
      have hE36 : Ext (fun k => k = g) w3 w6 := (hS.ext.no.trans hE5).trans hE6
      repeat (first | (apply JL.y; (first | (apply Y_move; rfl) | (apply Y_assign; rfl) | (apply Y_sub; rfl; rfl; omega)); rfl) | refine J.region ?_ | refine JL.nil ?_ | refine J.inBlock ?_)
      refine J.intro fun w7 hw7 => ih2 T1'.length (by simp) _ _ w7 ?_ ⟨T1', z :: T2, k - 1, by simp, by omega, rfl, (hE3.trans hE36).trans hw7.ext.no, (hR6.ext0 hw7.ext).eq ?_, rfl⟩
      · exact ⟨rfl, rfl, rfl, trivial⟩
      · rw [swap_mid _ _ _ _ rfl rfl]; simp
end
end Go.Proofs.Ytmkpbbdocndfbaa
