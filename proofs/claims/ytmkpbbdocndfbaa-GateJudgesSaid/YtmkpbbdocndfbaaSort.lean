/- Sorting messages in memory. -/
import Derived.Test.YtmkpbbdocndfbaaCmp
namespace Go.Proofs.Ytmkpbbdocndfbaa
open Go.RowKit Go.Proofs
attribute [local irreducible] Yl JL J G GL GA GQ DR

/-- A message's cells, of its words' slice and itself. -/
def mch (p : Value × Msg) : List Value := msgC p.1 p.2
def mkey (p : Value × Msg) : Int := p.2.lane
def MRow (w : World) (v : Value) (ts : List (Value × Msg)) : Prop := Row w 33 5 v (ts.map mch)
def Ones (ts : List (Value × Msg)) : Prop := ∀ p ∈ ts, p.1.oneCell' = true
theorem mch_len (p : Value × Msg) : (mch p).length = 5 := rfl
theorem MRow.ext0 {w w1 : World} {v : Value} {ts : List (Value × Msg)} (h : MRow w v ts) (he : Ext No w w1) : MRow w1 v ts := Row.ext0 h he
theorem MRow.eq {w : World} {v : Value} {ts ts' : List (Value × Msg)} (h : MRow w v ts) (he : ts = ts') : MRow w v ts' := he ▸ h
theorem MRow.ad {w : World} {A : Option Addr} {m c : Nat} {ts : List (Value × Msg)} (h : MRow w (.slice A m c) ts) (hn : 0 < ts.length) : ∃ g, A = some ⟨g, 0, none⟩ := by
  obtain ⟨g, cap, cur, hv, _⟩ := Row.block h (by simpa using hn)
  cases hv; exact ⟨g, rfl⟩
theorem MRow.lds {w : World} {ad : Addr} {m c : Nat} {ts : List (Value × Msg)} (h : MRow w (.slice (some ad) m c) ts) {i q : Nat} {p : Value × Msg} (hi : ts[i]? = some p) (hq : q = i * 5) : Foot (Lds Try.prog 33 (ad.add q) (.agg (msgC p.1 p.2).toArray)) w (fun k => k = ad.block) := by
  subst hq
  have hR : Rd 5 (fun _ _ (_ : Unit) => True) w (fun k => k = ad.block) (.slice (some ad) m c) (ts.map fun p => (mch p, ())) :=
    ⟨((Row.foot h |>.mono fun k _ hk => by simp [Value.ownBlock] at hk; exact hk.symm).imp fun w hw => by have := hw.rrow; simpa [List.map_map, Function.comp_def] using this), fun z hz => Foot.pure fun w => trivial⟩
  exact hR.lds (z := (mch p, ())) (by simp [hi])
theorem MRow.set {w : World} {ad : Addr} {m c : Nat} {ts : List (Value × Msg)} (h : MRow w (.slice (some ad) m c) ts) {i q : Nat} {p : Value × Msg} (hi : i < ts.length) (hp : p.1.oneCell' = true) (hq : q = i * 5) :
    ∃ w', (storeVar 33 (ad.add q) (.agg (msgC p.1 p.2).toArray)).run Try.prog w = .ok () w' ∧ (MRow w' (.slice (some ad) m c) (ts.set i p) ∧ Ext (fun k => k = ad.block) w w') := by
  subst hq
  obtain ⟨w', h1, h2, h3⟩ := Row.store (P := Try.prog) (t := 33) h rfl (i := i) (by simpa using hi) (x := .agg (msgC p.1 p.2).toArray) (l := mch p) rfl rfl (msgC_one hp)
  exact ⟨w', h1, by unfold MRow; rw [List.map_set]; exact h2, h3⟩
theorem get_mid {τ : Type} (A : List τ) (x : τ) (B : List τ) : (A ++ x :: B)[A.length]? = some x := by simp
theorem swap_mid {τ : Type} (A : List τ) (x y : τ) (B : List τ) {i j : Nat} (hi : i = A.length) (hj : j = A.length + 1) : ((A ++ x :: y :: B).set j x).set i y = A ++ y :: x :: B := by
  subst hi; subst hj
  rw [List.set_append_right _ _ (by omega), List.set_append_right _ _ (by omega)]; simp
theorem swap_mid' {τ : Type} (A : List τ) (x y : τ) (B : List τ) {i j : Nat} (hi : i = A.length) (hj : j = A.length + 1) : ((A ++ x :: y :: B).set i y).set j x = A ++ y :: x :: B := by
  subst hi; subst hj
  rw [List.set_append_right _ _ (by omega), List.set_append_right _ _ (by omega)]; simp
theorem KeyAt.ext {kb : Nat} {w w1 : World} {D : Nat → Prop} (h : KeyAt kb w) (he : Ext D w w1) (hd : ¬ D kb) : KeyAt kb w1 := by
  obtain ⟨kf, hkf, hb⟩ := h
  exact ⟨kf, hkf, (he.block kb hb.lt hd).trans hb⟩
theorem cmpI_neg (a b : Int) : (cmpI a b < 0) ↔ a < b := by unfold cmpI; split <;> (try split) <;> omega

set_option maxHeartbeats 1000000 in
/-- slices.insertionSortCmpFunc: from a to b. -/
theorem insSort_spec {w : World} {kb g m c : Nat} {A S B : List (Value × Msg)} (hrow : MRow w (.slice (some ⟨g, 0, none⟩) m c) (A ++ S ++ B)) (hone : Ones (A ++ S ++ B)) (hk : KeyAt kb w) (hkb : kb ≠ g) {a b : Int} (ha : a = A.length) (hb : b = A.length + S.length) (hn : (A ++ S ++ B).length ≤ 1000000) :
    Calls Try.prog 166 #[.slice (some ⟨g, 0, none⟩) m c, .int .i64 a, .int .i64 b, .func (.func 146) #[] #[.pointer (some ⟨kb, 0, none⟩)]] w
      fun e w' => e = .returned (.tuple #[]) ∧ Ext (fun k => k = g) w w' ∧ MRow w' (.slice (some ⟨g, 0, none⟩) m c) (A ++ St.srt mkey S ++ B) := by
  have hm : m = (A ++ S ++ B).length := by obtain ⟨A', c', hv, _⟩ := Row.slice hrow; cases hv; simp
  refine Calls.of_G4 Try.func166 rfl Try.ntmps166 rfl ?_
  refine J.at (C := Cls w No []) ?_ (Cls.start _ _)
  have hlen : (A ++ S ++ B).length = A.length + S.length + B.length := by simp [Nat.add_assoc]
  repeat (first | (apply JL.y; (first | (apply Y_move; rfl) | (apply Y_assign; rfl) | (apply Y_add; rfl; rfl; omega)); rfl) | refine J.seq ?_ | refine J.region ?_ | refine JL.nil ?_ | refine J.block ?_)
  refine J.intro fun wl hwl => G.loop (Inv := fun mm e wl => ∃ (r : Nat) (i : Int), (r + 1 ≤ S.length ∨ r = 0) ∧ i = a + 1 + r ∧ mm = S.length - r ∧ Ext (fun k => k = g) w wl ∧ MRow wl (.slice (some ⟨g, 0, none⟩) m c) (A ++ St.srt mkey (S.take (r + 1)) ++ S.drop (r + 1) ++ B) ∧ e = [(0, .slice (some ⟨g, 0, none⟩) m c), (1, .int .i64 a), (2, .int .i64 b), (3, .func (.func 146) #[] #[.pointer (some ⟨kb, 0, none⟩)]), (8, .int .i64 i)])
    _ _ ⟨0, _, .inr rfl, by omega, rfl, hwl.ext.no, ?_, rfl⟩ ⟨rfl, rfl, rfl, rfl, rfl, trivial⟩ ?_
  · have h0 := hrow.ext0 hwl.ext
    cases S with
    | nil => exact h0.eq (by simp [St.srt])
    | cons x S => exact h0.eq (by simp [St.srt, St.ins])
  rintro mm e w1 ⟨r, i, hr, rfl, rfl, hE, hR, rfl⟩ ih
  refine J.at (C := Cls w1 No []) ?_ (Cls.start _ _)
  repeat (first | (apply JL.y; (first | (apply Y_move; rfl) | (apply Y_lss; rfl; rfl)); rfl) | refine J.seq ?_ | refine J.region ?_ | refine JL.nil ?_)
  refine J.cond_d rfl (fun hlt => ?_) (fun hlt => ?_)
  case refine_2 =>
    repeat (first | (apply J.exit; rfl))
    exact J.end0 Try.func166 Try.results166 fun w' hw => ⟨rfl, hE.trans hw.ext.no, by
      exact (hR.ext0 hw.ext).eq (by rw [List.take_of_length_le (by omega), List.drop_eq_nil_of_le (by omega), List.append_nil])⟩
  have hr1 : r + 1 < S.length := by omega
  have hx : S[r + 1]? = some S[r + 1] := List.getElem?_eq_getElem hr1
  generalize hxe : S[r + 1] = x at hx
  have hxS : x ∈ S := List.mem_of_getElem? hx
  have hox : x.1.oneCell' = true := hone x (by simp [hxS])
  have hdrop : S.drop (r + 1) = x :: S.drop (r + 2) := by rw [List.drop_eq_getElem_cons hr1, hxe]
  have hsl : (St.srt mkey (S.take (r + 1))).length = r + 1 := by rw [St.srt_len, List.length_take]; omega
  have hsnoc : St.srt mkey (S.take (r + 2)) = St.ins mkey x (St.srt mkey (S.take (r + 1))) := by rw [show r + 2 = (r + 1) + 1 by omega, take_snoc hx, St.srt_snoc]
  repeat (first | (apply JL.y; (first | (apply Y_move; rfl) | (apply Y_assign; rfl)); rfl) | refine J.seq ?_ | refine J.region ?_ | refine JL.nil ?_ | refine J.skip ?_ | refine J.block ?_)
  refine J.intro fun w2 hw2 => G.loop (Inv := fun mm e wl => ∃ (T1 T2 : List (Value × Msg)) (j : Int), St.srt mkey (S.take (r + 1)) = T1 ++ T2 ∧ j = a + T1.length ∧ mm = T1.length ∧ (∀ y ∈ T2, mkey x < mkey y) ∧ Ext (fun k => k = g) w wl ∧ MRow wl (.slice (some ⟨g, 0, none⟩) m c) (A ++ (T1 ++ x :: T2) ++ S.drop (r + 2) ++ B) ∧ e = [(0, .slice (some ⟨g, 0, none⟩) m c), (1, .int .i64 a), (2, .int .i64 b), (3, .func (.func 146) #[] #[.pointer (some ⟨kb, 0, none⟩)]), (8, .int .i64 (a + 1 + r)), (9, .int .i64 j)])
    _ _ ⟨_, [], a + 1 + r, by simp; rfl, by rw [hsl]; omega, rfl, by simp, hE.trans hw2.ext.no, (hR.ext0 hw2.ext).eq (by rw [hdrop]; simp), rfl⟩ ⟨rfl, rfl, rfl, rfl, rfl, rfl, trivial⟩ ?_
  rintro mm e w3 ⟨T1, T2, j, hT, hj, rfl, hT2, hE3, hR3, rfl⟩ ih2
  refine J.at (C := Cls w3 No []) ?_ (Cls.start _ _)
  have hTl : T1.length + T2.length = r + 1 := by rw [← hsl, hT]; simp
  have hSr : (S.drop (r + 2)).length = S.length - (r + 2) := by simp
  rcases List.eq_nil_or_concat T1 with rfl | ⟨T1', y, rfl⟩
  · repeat (first | refine J.seq ?_)
    refine J.draw (S := Cls _ _ _) [] #[false, false, false, false, false, false, false, false, false, false, false, false, false, false, false, false, false] rfl rfl (fun w hw => hw.drew) (fun w hS => ?_)
    (apply DR.pure 0 #[true, false, false, false, false, false, false, false, false, false, false, false, false, false, false, false, false]; rfl; kernel_rfl; (apply Y_move; rfl); rfl)
    (apply DR.pure 1 #[true, true, false, false, false, false, false, false, false, false, false, false, false, false, false, false, false]; rfl; kernel_rfl; (apply Y_move; rfl); rfl)
    (apply DR.take 2 #[true, true, true, false, false, false, false, false, false, false, false, false, false, false, false, false, false]; rfl; kernel_rfl; (apply Y_gtr_f; rfl; rfl; simp at hj; omega); rfl; exact hS)
    (apply DR.pure 3 #[true, true, true, true, false, false, false, false, false, false, false, false, false, false, false, false, false]; rfl; kernel_rfl; (apply Y_move; rfl); rfl)
    (apply DR.not 4 #[true, true, true, true, true, false, false, false, false, false, false, false, false, false, false, false, false]; rfl; rfl; rfl; rfl; rfl; kernel_rfl; rfl)
    (apply DR.not 5 #[true, true, true, true, true, true, false, false, false, false, false, false, false, false, false, false, false]; rfl; rfl; rfl; rfl; rfl; kernel_rfl; rfl)
    (apply DR.not 6 #[true, true, true, true, true, true, true, false, false, false, false, false, false, false, false, false, false]; rfl; rfl; rfl; rfl; rfl; kernel_rfl; rfl)
    (apply DR.not 7 #[true, true, true, true, true, true, true, true, false, false, false, false, false, false, false, false, false]; rfl; rfl; rfl; rfl; rfl; kernel_rfl; rfl)
    (apply DR.not 8 #[true, true, true, true, true, true, true, true, true, false, false, false, false, false, false, false, false]; rfl; rfl; rfl; rfl; rfl; kernel_rfl; rfl)
    (apply DR.not 9 #[true, true, true, true, true, true, true, true, true, true, false, false, false, false, false, false, false]; rfl; rfl; rfl; rfl; rfl; kernel_rfl; rfl)
    (apply DR.not 10 #[true, true, true, true, true, true, true, true, true, true, true, false, false, false, false, false, false]; rfl; rfl; rfl; rfl; rfl; kernel_rfl; rfl)
    (apply DR.not 11 #[true, true, true, true, true, true, true, true, true, true, true, true, false, false, false, false, false]; rfl; rfl; rfl; rfl; rfl; kernel_rfl; rfl)
    (apply DR.not 12 #[true, true, true, true, true, true, true, true, true, true, true, true, true, false, false, false, false]; rfl; rfl; rfl; rfl; rfl; kernel_rfl; rfl)
    (apply DR.not 13 #[true, true, true, true, true, true, true, true, true, true, true, true, true, true, false, false, false]; rfl; rfl; rfl; rfl; rfl; kernel_rfl; rfl)
    (apply DR.not 14 #[true, true, true, true, true, true, true, true, true, true, true, true, true, true, true, false, false]; rfl; rfl; rfl; rfl; rfl; kernel_rfl; rfl)
    (apply DR.not 15 #[true, true, true, true, true, true, true, true, true, true, true, true, true, true, true, true, false]; rfl; rfl; rfl; rfl; rfl; kernel_rfl; rfl)
    (apply DR.pure 16 #[true, true, true, true, true, true, true, true, true, true, true, true, true, true, true, true, true]; rfl; kernel_rfl; (first | (apply Y_pick_t; rfl; rfl) | (apply Y_pick_f; rfl; rfl)); rfl)
    refine DR.done (by kernel_rfl) ?_
    refine J.at (C := Cls _ _ _) ?_ hS
    refine J.cond_f rfl ?_
    repeat (first | (apply JL.y; (first | (apply Y_move; rfl) | (apply Y_assign; rfl) | (apply Y_add; rfl; rfl; omega)); rfl) | refine J.region ?_ | refine JL.nil ?_ | refine J.inBlock ?_ | (apply J.exit; rfl))
    refine J.intro fun w4 hw4 => ih (S.length - (r + 1)) (by omega) _ _ w4 ?_ ⟨r + 1, a + 1 + r + 1, .inl (by omega), by omega, rfl, hE3.trans hw4.ext.no, (hR3.ext0 hw4.ext).eq ?_, rfl⟩
    · exact ⟨rfl, rfl, rfl, rfl, rfl, trivial⟩
    · rw [hsnoc, hT, St.ins_split (A := []) (by simp) (fun z hz => hT2 z (List.mem_of_mem_head? hz))]
  · rw [List.concat_eq_append] at *
    simp only [List.length_append, List.length_cons, List.length_nil] at hj hTl
    have hyS : y ∈ S := by
      have : y ∈ St.srt mkey (S.take (r + 1)) := by rw [hT]; simp
      exact List.mem_of_mem_take (St.srt_mem.1 this)
    have hoy : y.1.oneCell' = true := hone y (by simp [hyS])
    have hE3' : A ++ (T1' ++ [y] ++ x :: T2) ++ S.drop (r + 2) ++ B = (A ++ T1') ++ y :: x :: (T2 ++ S.drop (r + 2) ++ B) := by simp
    rw [hE3'] at hR3
    have hxi : ((A ++ T1') ++ y :: x :: (T2 ++ S.drop (r + 2) ++ B))[A.length + T1'.length + 1]? = some x := by
      rw [List.getElem?_append_right (by rw [List.length_append]; omega)]; simp [show A.length + T1'.length + 1 - (A.length + T1'.length) = 1 by omega]
    have hyi : ((A ++ T1') ++ y :: x :: (T2 ++ S.drop (r + 2) ++ B))[A.length + T1'.length]? = some y := by
      rw [List.getElem?_append_right (by simp)]; simp
    have lx := hR3.lds hxi (q := j.toNat * 5) (by congr 1; omega)
    have ly := hR3.lds hyi (q := (j - 1).toNat * 5) (by congr 1; omega)
    have hk3 : KeyAt kb w3 := hk.ext hE3 hkb
    repeat (first | refine J.seq ?_)
    refine J.draw (S := Cls _ _ _) [] #[false, false, false, false, false, false, false, false, false, false, false, false, false, false, false, false, false] rfl rfl (fun w hw => hw.drew) (fun w hS => ?_)
    (apply DR.pure 0 #[true, false, false, false, false, false, false, false, false, false, false, false, false, false, false, false, false]; rfl; kernel_rfl; (apply Y_move; rfl); rfl)
    (apply DR.pure 1 #[true, true, false, false, false, false, false, false, false, false, false, false, false, false, false, false, false]; rfl; kernel_rfl; (apply Y_move; rfl); rfl)
    (apply DR.take 2 #[true, true, true, false, false, false, false, false, false, false, false, false, false, false, false, false, false]; rfl; kernel_rfl; (apply Y_gtr_t; rfl; rfl; omega); rfl; exact hS)
    (apply DR.pure 3 #[true, true, true, true, false, false, false, false, false, false, false, false, false, false, false, false, false]; rfl; kernel_rfl; (apply Y_move; rfl); rfl)
    (apply DR.pureG 4 #[true, true, true, true, true, false, false, false, false, false, false, false, false, false, false, false, false]; rfl; rfl; rfl; rfl; kernel_rfl; (apply Y_move; rfl); rfl)
    (apply DR.pureG 5 #[true, true, true, true, true, true, false, false, false, false, false, false, false, false, false, false, false]; rfl; rfl; rfl; rfl; kernel_rfl; (apply Y_move; rfl); rfl)
    (apply DR.pureG 6 #[true, true, true, true, true, true, true, false, false, false, false, false, false, false, false, false, false]; rfl; rfl; rfl; rfl; kernel_rfl; (apply Y_move; rfl); rfl)
    (apply DR.pureG 7 #[true, true, true, true, true, true, true, true, false, false, false, false, false, false, false, false, false]; rfl; rfl; rfl; rfl; kernel_rfl; (apply Y_indexAddr; rfl; rfl; omega); rfl)
    (apply DR.takeG 8 #[true, true, true, true, true, true, true, true, true, false, false, false, false, false, false, false, false]; rfl; rfl; rfl; rfl; kernel_rfl; exact Y_loadP rfl fun w hw => lx.at_ hw.ext fun _ _ _ h => h; rfl; exact hS)
    (apply DR.pureG 9 #[true, true, true, true, true, true, true, true, true, true, false, false, false, false, false, false, false]; rfl; rfl; rfl; rfl; kernel_rfl; (apply Y_move; rfl); rfl)
    (apply DR.pureG 10 #[true, true, true, true, true, true, true, true, true, true, true, false, false, false, false, false, false]; rfl; rfl; rfl; rfl; kernel_rfl; (apply Y_move; rfl); rfl)
    (apply DR.pureG 11 #[true, true, true, true, true, true, true, true, true, true, true, true, false, false, false, false, false]; rfl; rfl; rfl; rfl; kernel_rfl; (apply Y_sub; rfl; rfl; omega); rfl)
    (apply DR.pureG 12 #[true, true, true, true, true, true, true, true, true, true, true, true, true, false, false, false, false]; rfl; rfl; rfl; rfl; kernel_rfl; (apply Y_indexAddr; rfl; rfl; omega); rfl)
    (apply DR.takeG 13 #[true, true, true, true, true, true, true, true, true, true, true, true, true, true, false, false, false]; rfl; rfl; rfl; rfl; kernel_rfl; exact Y_loadP rfl fun w hw => ly.at_ hw.ext fun _ _ _ h => h; rfl; exact hS)
    apply DR.callqCG (cap := [.pointer (some ⟨kb, 0, none⟩)]) 14 #[true, true, true, true, true, true, true, true, true, true, true, true, true, true, true, false, false]; rfl; rfl; rfl; rfl; kernel_rfl; rfl; rfl; exact inferInstance; rfl; rfl; exact cmp_spec (hk3.ext hS.ext id) x y hox hoy; (intro w' hw'; exact hS.ext0 hw'); intro w hE hS
    (apply DR.pureG 15 #[true, true, true, true, true, true, true, true, true, true, true, true, true, true, true, true, false]; rfl; rfl; rfl; rfl; kernel_rfl; (apply Y_lss; rfl; rfl); rfl)
    (apply DR.pure 16 #[true, true, true, true, true, true, true, true, true, true, true, true, true, true, true, true, true]; rfl; kernel_rfl; (first | (apply Y_pick_t; rfl; rfl) | (apply Y_pick_f; rfl; rfl)); rfl)
    refine DR.done (by kernel_rfl) ?_
    refine J.at (C := Cls _ _ _) ?_ hS
    refine J.cond_d rfl (fun hc => ?_) (fun hc => ?_)
    case refine_2 =>
      have hge : ¬ mkey x < mkey y := fun h => hc ((cmpI_neg _ _).2 h)
      have hsrt := St.srt_srt (key := mkey) (S.take (r + 1))
      rw [hT] at hsrt
      have hle : ∀ z ∈ T1' ++ [y], mkey z ≤ mkey x := fun z hz => by
        have h1 := (St.Srt.parts (St.Srt.parts hsrt).1).2.2
        rcases List.mem_append.1 hz with hz | hz
        · have := h1 z hz y (by simp); omega
        · simp at hz; subst hz; omega
      repeat (first | (apply JL.y; (first | (apply Y_move; rfl) | (apply Y_assign; rfl) | (apply Y_add; rfl; rfl; omega)); rfl) | refine J.region ?_ | refine JL.nil ?_ | refine J.inBlock ?_ | (apply J.exit; rfl))
      refine J.intro fun w4 hw4 => ih (S.length - (r + 1)) (by omega) _ _ w4 ?_ ⟨r + 1, a + 1 + r + 1, .inl (by omega), by omega, rfl, hE3.trans hw4.ext.no, (hR3.ext0 hw4.ext).eq ?_, rfl⟩
      · exact ⟨rfl, rfl, rfl, rfl, rfl, trivial⟩
      · rw [hsnoc, hT, St.ins_split hle (fun z hz => hT2 z (List.mem_of_mem_head? hz))]; simp
    have hlt' : mkey x < mkey y := (cmpI_neg _ _).1 hc
    repeat (first | refine J.seq ?_ | refine J.skip ?_ | refine J.block ?_)
    refine J.draw (S := Cls _ _ _) [15, 17] #[false, false, false, false, false, false, false, false, false, false, false, false, false, false, false, false, false, false] rfl rfl (fun w hw => hw.drew) (fun w hS => ?_)
    (apply DR.pure 0 #[true, false, false, false, false, false, false, false, false, false, false, false, false, false, false, false, false, false]; rfl; kernel_rfl; (apply Y_move; rfl); rfl)
    (apply DR.pure 1 #[true, true, false, false, false, false, false, false, false, false, false, false, false, false, false, false, false, false]; rfl; kernel_rfl; (apply Y_move; rfl); rfl)
    (apply DR.pure 2 #[true, true, true, false, false, false, false, false, false, false, false, false, false, false, false, false, false, false]; rfl; kernel_rfl; (apply Y_move; rfl); rfl)
    (apply DR.pure 3 #[true, true, true, true, false, false, false, false, false, false, false, false, false, false, false, false, false, false]; rfl; kernel_rfl; (apply Y_move; rfl); rfl)
    (apply DR.pure 4 #[true, true, true, true, true, false, false, false, false, false, false, false, false, false, false, false, false, false]; rfl; kernel_rfl; (apply Y_sub; rfl; rfl; omega); rfl)
    (apply DR.pure 5 #[true, true, true, true, true, true, false, false, false, false, false, false, false, false, false, false, false, false]; rfl; kernel_rfl; (apply Y_move; rfl); rfl)
    (apply DR.pure 6 #[true, true, true, true, true, true, true, false, false, false, false, false, false, false, false, false, false, false]; rfl; kernel_rfl; (apply Y_move; rfl); rfl)
    (apply DR.pure 7 #[true, true, true, true, true, true, true, true, false, false, false, false, false, false, false, false, false, false]; rfl; kernel_rfl; (apply Y_sub; rfl; rfl; omega); rfl)
    (apply DR.pure 8 #[true, true, true, true, true, true, true, true, true, false, false, false, false, false, false, false, false, false]; rfl; kernel_rfl; (apply Y_indexAddr; rfl; rfl; omega); rfl)
    (apply DR.take 9 #[true, true, true, true, true, true, true, true, true, true, false, false, false, false, false, false, false, false]; rfl; kernel_rfl; exact Y_loadP rfl fun w hw => ly.at_ hw.ext fun _ _ _ h => h; rfl; exact hS)
    (apply DR.pure 10 #[true, true, true, true, true, true, true, true, true, true, true, false, false, false, false, false, false, false]; rfl; kernel_rfl; (apply Y_move; rfl); rfl)
    (apply DR.pure 11 #[true, true, true, true, true, true, true, true, true, true, true, true, false, false, false, false, false, false]; rfl; kernel_rfl; (apply Y_move; rfl); rfl)
    (apply DR.pure 12 #[true, true, true, true, true, true, true, true, true, true, true, true, true, false, false, false, false, false]; rfl; kernel_rfl; (apply Y_indexAddr; rfl; rfl; omega); rfl)
    (apply DR.take 13 #[true, true, true, true, true, true, true, true, true, true, true, true, true, true, false, false, false, false]; rfl; kernel_rfl; exact Y_loadP rfl fun w hw => lx.at_ hw.ext fun _ _ _ h => h; rfl; exact hS)
    (apply DR.pure 14 #[true, true, true, true, true, true, true, true, true, true, true, true, true, true, true, false, false, false]; rfl; kernel_rfl; (apply Y_indexAddr; rfl; rfl; omega); rfl)
    refine DR.rowStore 15 #[true, true, true, true, true, true, true, true, true, true, true, true, true, true, true, true, false, false] rfl (by kernel_rfl) rfl _ rfl rfl (MRow.set (hR3.ext0 hS.ext) (i := A.length + T1'.length + 1) (by simp; omega) hoy (by congr 1; omega)) (fun w5 ⟨hR5, hE5⟩ => ?_)
    (apply DR.pure 16 #[true, true, true, true, true, true, true, true, true, true, true, true, true, true, true, true, true, false]; rfl; kernel_rfl; (apply Y_indexAddr; rfl; rfl; omega); rfl)
    refine DR.rowStore 17 #[true, true, true, true, true, true, true, true, true, true, true, true, true, true, true, true, true, true] rfl (by kernel_rfl) rfl _ rfl rfl (MRow.set hR5 (i := A.length + T1'.length) (by simp) hox (by congr 1; omega)) (fun w6 ⟨hR6, hE6⟩ => ?_)
    refine DR.done (by kernel_rfl) ?_
    refine J.at (C := Cls w6 No []) ?_ (Cls.start _ _)
    have hE36 : Ext (fun k => k = g) w3 w6 := (hS.ext.no.trans hE5).trans hE6
    repeat (first | (apply JL.y; (first | (apply Y_move; rfl) | (apply Y_assign; rfl) | (apply Y_sub; rfl; rfl; omega)); rfl) | refine J.region ?_ | refine JL.nil ?_ | refine J.inBlock ?_)
    refine J.intro fun w7 hw7 => ih2 T1'.length (by simp) _ _ w7 ?_ ⟨T1', y :: T2, j - 1, by simp [hT], by omega, rfl, ?_, (hE3.trans hE36).trans hw7.ext.no, (hR6.ext0 hw7.ext).eq ?_, rfl⟩
    · exact ⟨rfl, rfl, rfl, rfl, rfl, rfl, trivial⟩
    · intro z hz
      rcases List.mem_cons.1 hz with rfl | hz
      · exact hlt'
      · exact hT2 z hz
    · rw [swap_mid _ _ _ _ (by simp) (by simp)]; simp
end Go.Proofs.Ytmkpbbdocndfbaa
