/- lane.sorted of messages. -/
import Derived.Test.YtmkpbbdocndfbaaMerge2
namespace Go.Proofs.Ytmkpbbdocndfbaa
open Go.RowKit Go.Proofs
attribute [local irreducible] Yl JL J G GL GA GQ DR

def prs (xs : List (List Value × Msg)) : List (Value × Msg) := xs.map fun z => (z.1.headD (.slice none 0 0), z.2)
theorem prs_eq {xs : List (List Value × Msg)} (h : ∀ z ∈ xs, ∃ ws, z.1 = msgC ws z.2 ∧ ws.oneCell' = true) : (prs xs).map (fun p => (mch p, p.2)) = xs ∧ Ones (prs xs) := by
  induction xs with
  | nil => exact ⟨rfl, fun p hp => by cases hp⟩
  | cons z xs ih =>
    obtain ⟨h1, h2⟩ := ih fun z hz => h z (.tail _ hz)
    obtain ⟨ws, hz, ho⟩ := h z (.head _)
    refine ⟨?_, fun p hp => ?_⟩
    · show (mch (z.1.headD _, z.2), z.2) :: (prs xs).map (fun p => (mch p, p.2)) = _
      rw [h1]
      obtain ⟨a, b⟩ := z
      have hz' : a = msgC ws b := hz
      subst hz'; rfl
    · rcases List.mem_cons.1 hp with rfl | hp
      · show (z.1.headD _).oneCell' = true
        rw [hz]; exact ho
      · exact h2 p hp
theorem prs_row (xs : List (List Value × Msg)) (h : (prs xs).map (fun p => (mch p, p.2)) = xs) : (prs xs).map mch = xs.map (·.1) := by
  conv => rhs; rw [← h]
  simp [Function.comp_def]
theorem rrow_news {w : World} {sz : Nat} {ad : Addr} {m c : Nat} {chs : List (List Value)} (h : RRow w sz (.slice (some ad) m c) chs) (hsz : 0 < sz) : ∀ j u, chs.flatten[j]? = some u → w.cell? (ad.add j) = some u := fun j u hu => by
  have hl := flatten_len chs sz h.size
  have hj : j < chs.length * sz := by rw [← hl]; exact (List.getElem?_eq_some_iff.1 hu).1
  have hi : j / sz < chs.length := Nat.div_lt_of_lt_mul (by rw [Nat.mul_comm]; exact hj)
  have hch : chs[j / sz]? = some chs[j / sz] := List.getElem?_eq_getElem hi
  have hr : j % sz < chs[j / sz].length := by rw [h.size _ (List.getElem_mem hi)]; exact Nat.mod_lt _ hsz
  have hv : chs[j / sz][j % sz]? = some chs[j / sz][j % sz] := List.getElem?_eq_getElem hr
  have h1 := flatten_at chs sz h.size _ _ _ _ hch hv
  have hjj : j / sz * sz + j % sz = j := by rw [Nat.mul_comm]; exact Nat.div_add_mod j sz
  rw [hjj, hu] at h1
  obtain ⟨ad', e1, h2⟩ := h.cell hch hv
  cases e1
  rw [hjj] at h2
  rw [h2, ← h1]
def skey (z : List Value × Msg) : Int := z.2.lane

set_option maxHeartbeats 2000000 in
/-- slices.stableCmpFunc, of fewer than forty. -/
theorem stable_spec {w : World} {kb g m c : Nat} {L : List (Value × Msg)} (hrow : MRow w (.slice (some ⟨g, 0, none⟩) m c) L) (hone : Ones L) (hk : KeyAt kb w) (hkb : kb ≠ g) (hn : L.length < 40) {s : Int} (hs : s = L.length) :
    Calls Try.prog 160 #[.slice (some ⟨g, 0, none⟩) m c, .int .i64 s, cmpV kb] w
      fun e w' => e = .returned (.tuple #[]) ∧ Ext (fun k => k = g) w w' ∧ MRow w' (.slice (some ⟨g, 0, none⟩) m c) (St.srt mkey L) := by
  refine Calls.of_G3 Try.func160 rfl Try.ntmps160 rfl ?_
  refine J.at (C := Cls w No []) ?_ (Cls.start _ _)
  repeat (first | (apply JL.y; (first | (apply Y_move; rfl) | (apply Y_assign; rfl)); rfl) | refine J.seq ?_ | refine J.region ?_ | refine JL.nil ?_ | refine J.block ?_)
  refine J.loop1 ?_
  repeat (first | (apply JL.y; (first | (apply Y_move; rfl) | (apply Y_leq; rfl; rfl)); rfl) | refine J.seq ?_ | refine J.region ?_ | refine JL.nil ?_)
  refine J.cond_d rfl (fun h20 => ?_) (fun h20 => ?_)
  case refine_2 =>
    repeat (first | (apply JL.y; (apply Y_move; rfl); rfl) | refine J.seq ?_ | refine J.region ?_ | (apply J.exit; rfl))
    refine JL.call (fun w2 v w3 => v = .tuple #[] ∧ Ext (fun k => k = g) w2 w3 ∧ MRow w3 (.slice (some ⟨g, 0, none⟩) m c) ([] ++ St.srt mkey L ++ [])) rfl rfl (fun w2 hw2 => (insSort_spec (A := []) (S := L) (B := []) ((hrow.ext0 hw2.ext).eq (by simp)) (hone.of fun p hp => by simpa using hp) (hk.ext hw2.ext id) hkb rfl (by simp; omega) (by simp; omega)).mono fun e w' h => ⟨_, h.1, rfl, h.2⟩) fun w2 r w3 hw2 ⟨hr, hE3, hR3⟩ => ?_
    subst hr
    refine GL.of_JL (C := Cls w3 No []) (Cls.start _ _) ?_
    repeat (first | refine JL.nil ?_ | refine J.block ?_)
    refine J.loop1 ?_
    repeat (first | (apply JL.y; (first | (apply Y_move; rfl) | (apply Y_lss; rfl; rfl)); rfl) | refine J.seq ?_ | refine J.region ?_ | refine JL.nil ?_)
    refine J.cond_d rfl (fun h => by exfalso; omega) (fun h => ?_)
    repeat (first | (apply J.exit; rfl))
    exact J.end0 Try.func160 Try.results160 fun w' hw => ⟨rfl, (hw2.ext.no.trans hE3).trans hw.ext.no, (hR3.ext0 hw.ext).eq (by simp)⟩
  obtain ⟨S1, S2, rfl, hl1⟩ : ∃ S1 S2, L = S1 ++ S2 ∧ S1.length = 20 := ⟨L.take 20, L.drop 20, by simp, by rw [List.length_take]; omega⟩
  have hSS : (S1 ++ S2).length = 20 + S2.length := by simp [hl1]
  repeat (first | (apply JL.y; (apply Y_move; rfl); rfl) | refine J.seq ?_ | refine J.region ?_ | refine J.skip ?_ | refine J.block ?_)
  refine JL.call (fun w2 v w3 => v = .tuple #[] ∧ Ext (fun k => k = g) w2 w3 ∧ MRow w3 (.slice (some ⟨g, 0, none⟩) m c) ([] ++ St.srt mkey S1 ++ S2)) rfl rfl (fun w2 hw2 => (insSort_spec (A := []) (S := S1) (B := S2) ((hrow.ext0 hw2.ext).eq (by simp)) (hone.of fun p hp => by simpa using hp) (hk.ext hw2.ext id) hkb rfl (by simp; omega) (by simp; omega)).mono fun e w' h => ⟨_, h.1, rfl, h.2⟩) fun w2 r w3 hw2 ⟨hr, hE3, hR3⟩ => ?_
  subst hr
  refine GL.of_JL (C := Cls w3 No []) (Cls.start _ _) ?_
  have hE03 : Ext (fun k => k = g) w w3 := hw2.ext.no.trans hE3
  have hone2 : Ones (St.srt mkey S1 ++ S2 ++ []) := hone.of fun p hp => by
    simp only [List.mem_append, St.srt_mem, List.not_mem_nil, or_false] at hp ⊢; exact hp
  have hs1 : (St.srt mkey S1).length = 20 := by rw [St.srt_len, hl1]
  repeat (first | (apply JL.y; (first | (apply Y_move; rfl) | (apply Y_assign; rfl) | (apply Y_add; rfl; rfl; omega)); rfl) | refine J.seq ?_ | refine J.region ?_ | refine JL.nil ?_ | refine J.inBlock ?_)
  refine J.inLoop1 ?_
  repeat (first | (apply JL.y; (first | (apply Y_move; rfl) | (apply Y_leq; rfl; rfl)); rfl) | refine J.seq ?_ | refine J.region ?_ | refine JL.nil ?_)
  refine J.cond_d rfl (fun h => by exfalso; omega) (fun h => ?_)
  repeat (first | (apply JL.y; (apply Y_move; rfl); rfl) | refine J.seq ?_ | refine J.region ?_ | (apply J.exit; rfl))
  refine JL.call (fun w4 v w5 => v = .tuple #[] ∧ Ext (fun k => k = g) w4 w5 ∧ MRow w5 (.slice (some ⟨g, 0, none⟩) m c) (St.srt mkey S1 ++ St.srt mkey S2 ++ [])) rfl rfl (fun w4 hw4 => (insSort_spec (A := St.srt mkey S1) (S := S2) (B := []) ((hR3.ext0 hw4.ext).eq (by simp)) hone2 ((hk.ext hE03 hkb).ext hw4.ext id) hkb (by omega) (by omega) (by simp; omega)).mono fun e w' h => ⟨_, h.1, rfl, h.2⟩) fun w4 r w5 hw4 ⟨hr, hE5, hR5⟩ => ?_
  subst hr
  refine GL.of_JL (C := Cls w5 No []) (Cls.start _ _) ?_
  have hE05 : Ext (fun k => k = g) w w5 := (hE03.trans hw4.ext.no).trans hE5
  have hone3 : Ones ([] ++ St.srt mkey S1 ++ St.srt mkey S2 ++ []) := hone.of fun p hp => by
    simp only [List.mem_append, St.srt_mem, List.not_mem_nil, or_false, false_or] at hp ⊢; exact hp
  have hs2 : (St.srt mkey S2).length = S2.length := St.srt_len _
  repeat (first | refine JL.nil ?_ | refine J.block ?_)
  refine J.loop1 ?_
  repeat (first | (apply JL.y; (first | (apply Y_move; rfl) | (apply Y_lss; rfl; rfl)); rfl) | refine J.seq ?_ | refine J.region ?_ | refine JL.nil ?_)
  refine J.cond_d rfl (fun h21 => ?_) (fun h21 => ?_)
  case refine_2 =>
    have : S2 = [] := List.eq_nil_of_length_eq_zero (by omega)
    subst this
    repeat (first | (apply J.exit; rfl))
    exact J.end0 Try.func160 Try.results160 fun w' hw => ⟨rfl, hE05.trans hw.ext.no, (hR5.ext0 hw.ext).eq (by simp [St.srt])⟩
  repeat (first | (apply JL.y; (apply Y_move; rfl); rfl) | refine J.seq ?_ | refine J.region ?_ | refine J.skip ?_ | refine J.block ?_)
  apply JL.y (Y_mul rfl rfl (by omega)) rfl
  repeat (first | (apply JL.y; (apply Y_assign; rfl); rfl) | refine J.seq ?_ | refine JL.nil ?_ | refine J.block ?_)
  refine J.loop1 ?_
  repeat (first | (apply JL.y; (first | (apply Y_move; rfl) | (apply Y_leq; rfl; rfl)); rfl) | refine J.seq ?_ | refine J.region ?_ | refine JL.nil ?_)
  refine J.cond_d rfl (fun h => by exfalso; omega) (fun h => ?_)
  repeat (first | (apply JL.y; (first | (apply Y_move; rfl) | (apply Y_assign; rfl) | (apply Y_lss; rfl; rfl) | (apply Y_add; rfl; rfl; omega)); rfl) | refine J.seq ?_ | refine J.region ?_ | refine JL.nil ?_ | (apply J.exit; rfl))
  refine J.cond_d rfl (fun h => ?_) (fun h => by exfalso; omega)
  repeat (first | (apply JL.y; (apply Y_move; rfl); rfl) | refine J.region ?_)
  refine JL.call (fun w6 v w7 => v = .tuple #[] ∧ Ext (fun k => k = g) w6 w7 ∧ MRow w7 (.slice (some ⟨g, 0, none⟩) m c) ([] ++ St.srt mkey (St.srt mkey S1 ++ St.srt mkey S2) ++ [])) rfl rfl (fun w6 hw6 => (symMerge_spec _ (P := []) (A := St.srt mkey S1) (B := St.srt mkey S2) (Q := []) (Nat.le_refl _) ((hR5.ext0 hw6.ext).eq (by simp)) hone3 ((hk.ext hE05 hkb).ext hw6.ext id) hkb (St.srt_srt _) (St.srt_srt _) (by omega) (by omega) rfl (by simp; omega) (by simp; omega) (by simp; omega)).mono fun e w' h => ⟨_, h.1, rfl, h.2⟩) fun w6 r w7 hw6 ⟨hr, hE7, hR7⟩ => ?_
  subst hr
  refine GL.of_JL (C := Cls w7 No []) (Cls.start _ _) ?_
  repeat (first | (apply JL.y; (apply Y_move; rfl); rfl) | refine J.region ?_ | refine JL.nil ?_)
  apply JL.y (Y_mul rfl rfl (by omega)) rfl
  repeat (first | (apply JL.y; (apply Y_assign; rfl); rfl) | refine JL.nil ?_ | refine J.inBlock ?_)
  refine J.inLoop1 ?_
  repeat (first | (apply JL.y; (first | (apply Y_move; rfl) | (apply Y_lss; rfl; rfl)); rfl) | refine J.seq ?_ | refine J.region ?_ | refine JL.nil ?_)
  refine J.cond_d rfl (fun h => by exfalso; omega) (fun h => ?_)
  repeat (first | (apply J.exit; rfl))
  refine J.end0 Try.func160 Try.results160 fun w' hw => ⟨rfl, ((hE05.trans hw6.ext.no).trans hE7).trans hw.ext.no, (hR7.ext0 hw.ext).eq ?_⟩
  simp only [List.nil_append, List.append_nil]
  exact St.srt_of (St.srt_srt _) (St.srt_stb _)
/-- slices.SortStableFunc. -/
theorem sortStable_spec {w : World} {kb g m c : Nat} {L : List (Value × Msg)} (hrow : MRow w (.slice (some ⟨g, 0, none⟩) m c) L) (hone : Ones L) (hk : KeyAt kb w) (hkb : kb ≠ g) (hn : L.length < 40) :
    Calls Try.prog 145 #[.slice (some ⟨g, 0, none⟩) m c, cmpV kb] w
      fun e w' => e = .returned (.tuple #[]) ∧ Ext (fun k => k = g) w w' ∧ MRow w' (.slice (some ⟨g, 0, none⟩) m c) (St.srt mkey L) := by
  have hm : m = L.length := by obtain ⟨A', c', hv, _⟩ := Row.slice hrow; cases hv; simp
  refine Calls.of_G2 Try.func145 rfl Try.ntmps145 rfl ?_
  refine J.at (C := Cls w No []) ?_ (Cls.start _ _)
  repeat (first | (apply JL.y; (first | (apply Y_move; rfl) | (apply Y_len; rfl)); rfl) | refine J.region ?_)
  refine JL.call (fun w2 v w3 => v = .tuple #[] ∧ Ext (fun k => k = g) w2 w3 ∧ MRow w3 (.slice (some ⟨g, 0, none⟩) m c) (St.srt mkey L)) rfl rfl (fun w2 hw2 => (stable_spec (hrow.ext0 hw2.ext) hone (hk.ext hw2.ext id) hkb hn (by omega)).mono fun e w' h => ⟨_, h.1, rfl, h.2⟩) fun w2 r w3 hw2 ⟨hr, hE3, hR3⟩ => ?_
  subst hr
  refine GL.of_JL (C := Cls w3 No []) (Cls.start _ _) ?_
  repeat (first | refine JL.nil ?_)
  exact J.end0 Try.func145 Try.results145 fun w' hw => ⟨rfl, (hw2.ext.no.trans hE3).trans hw.ext.no, hR3.ext0 hw.ext⟩

/-- .. of none. -/
theorem insSort_nil {w : World} {A : Option Addr} {c : Nat} {fv : Value} :
    Calls Try.prog 166 #[.slice A 0 c, .int .i64 0, .int .i64 0, fv] w fun e w' => e = .returned (.tuple #[]) ∧ Ext No w w' := by
  refine Calls.of_G4 Try.func166 rfl Try.ntmps166 rfl ?_
  refine J.at (C := Cls w No []) ?_ (Cls.start _ _)
  repeat (first | (apply JL.y; (first | (apply Y_move; rfl) | (apply Y_assign; rfl) | (apply Y_add; rfl; rfl; omega)); rfl) | refine J.seq ?_ | refine J.region ?_ | refine JL.nil ?_ | refine J.block ?_)
  refine J.loop1 ?_
  repeat (first | (apply JL.y; (first | (apply Y_move; rfl) | (apply Y_lss; rfl; rfl)); rfl) | refine J.seq ?_ | refine J.region ?_ | refine JL.nil ?_)
  refine J.cond_d rfl (fun h => by exfalso; omega) (fun h => ?_)
  repeat (first | (apply J.exit; rfl))
  exact J.end0 Try.func166 Try.results166 fun w' hw => ⟨rfl, hw.ext⟩
theorem stable_nil {w : World} {A : Option Addr} {c : Nat} {fv : Value} :
    Calls Try.prog 160 #[.slice A 0 c, .int .i64 0, fv] w fun e w' => e = .returned (.tuple #[]) ∧ Ext No w w' := by
  refine Calls.of_G3 Try.func160 rfl Try.ntmps160 rfl ?_
  refine J.at (C := Cls w No []) ?_ (Cls.start _ _)
  repeat (first | (apply JL.y; (first | (apply Y_move; rfl) | (apply Y_assign; rfl)); rfl) | refine J.seq ?_ | refine J.region ?_ | refine JL.nil ?_ | refine J.block ?_)
  refine J.loop1 ?_
  repeat (first | (apply JL.y; (first | (apply Y_move; rfl) | (apply Y_leq; rfl; rfl)); rfl) | refine J.seq ?_ | refine J.region ?_ | refine JL.nil ?_)
  refine J.cond_d rfl (fun h => by exfalso; omega) (fun h => ?_)
  repeat (first | (apply JL.y; (apply Y_move; rfl); rfl) | refine J.seq ?_ | refine J.region ?_ | refine JL.nil ?_ | (apply JL.callq; rfl; rfl; (intro wc hwc; first | exact insSort_nil)) | refine J.block ?_ | (apply J.exit; rfl))
  refine J.loop1 ?_
  repeat (first | (apply JL.y; (first | (apply Y_move; rfl) | (apply Y_lss; rfl; rfl)); rfl) | refine J.seq ?_ | refine J.region ?_ | refine JL.nil ?_)
  refine J.cond_d rfl (fun h => by exfalso; omega) (fun h => ?_)
  repeat (first | (apply J.exit; rfl))
  exact J.end0 Try.func160 Try.results160 fun w' hw => ⟨rfl, hw.ext⟩
theorem sortStable_nil {w : World} {A : Option Addr} {c : Nat} {fv : Value} :
    Calls Try.prog 145 #[.slice A 0 c, fv] w fun e w' => e = .returned (.tuple #[]) ∧ Ext No w w' := by
  refine Calls.of_G2 Try.func145 rfl Try.ntmps145 rfl ?_
  refine J.at (C := Cls w No []) ?_ (Cls.start _ _)
  repeat (first | (apply JL.y; (first | (apply Y_move; rfl) | (apply Y_len; rfl)); rfl) | refine J.region ?_ | refine JL.nil ?_ | (apply JL.callq; rfl; rfl; (intro wc hwc; first | exact stable_nil)))
  exact J.end0 Try.func145 Try.results145 fun w' hw => ⟨rfl, hw.ext⟩

/-- slices.Clone of messages. -/
theorem cloneMsgs_spec {w : World} {ok : Nat → Prop} {v : Value} {xs : List (List Value × Msg)} (h : Rd 5 MsgC w ok v xs) (hb : xs.length ≤ 1000000) :
    Calls Try.prog 144 #[v] w fun e w' => ∃ r, e = .returned r ∧ Ext No w w' ∧ Row w' 33 5 r (xs.map (·.1)) ∧ (∀ g, r.ownBlock = some g → w.heap.size ≤ g) := by
  obtain ⟨A, c, rfl, hc, hm⟩ := h.slice
  have hone : ∀ ch ∈ xs.map (·.1), ∀ u ∈ ch, u.oneCell' = true := fun ch hch => by
    obtain ⟨z, hz, rfl⟩ := List.mem_map.1 hch
    obtain ⟨ws, hws, _, _, ho⟩ := MsgC.open_ (h.el z hz)
    rw [hws]; exact msgC_one ho
  refine Calls.of_G1 Try.func144 rfl Try.ntmps144 rfl ?_
  refine J.at (C := Cls w No []) ?_ (Cls.start _ _)
  cases A with
  | none =>
    have : xs = [] := by
      cases xs with
      | nil => rfl
      | cons z xs => obtain ⟨ad, c', e1⟩ := h.base (by decide) (by simp); cases e1
    subst this
    repeat (first | (apply JL.y; (first | (apply Y_move; rfl) | (apply Y_assign; rfl) | (apply Y_snil; rfl)); rfl) | refine J.seq ?_ | refine J.region ?_ | refine JL.nil ?_)
    apply J.cond_t rfl
    repeat (first | (apply JL.y; (apply Y_assign; rfl); rfl) | refine J.seq ?_ | refine J.region ?_ | refine JL.nil ?_)
    exact J.ret1 Try.func144 Try.results144 (RV.tm rfl) fun w' hw => ⟨_, rfl, hw.ext, Row.nil _ _ _, fun g h => by simp [Value.ownBlock] at h⟩
  | some ad =>
    repeat (first | (apply JL.y; (first | (apply Y_move; rfl) | (apply Y_assign; rfl) | (apply Y_snil; rfl)); rfl) | refine J.seq ?_ | refine J.region ?_ | refine JL.nil ?_)
    apply J.cond_f rfl
    repeat (first | (apply JL.y; (apply Y_move; rfl); rfl) | refine J.seq ?_ | refine J.region ?_ | (apply JL.bslice0; rfl; intro _) | refine J.skip ?_)
    refine JL.intro fun w1 hw1 => ?_
    refine GL.append rfl rfl (by decide) (Row.of_blk (chs := []) (hw1.has _ (.head _)) rfl (by simp) rfl (by simp [maxLen])) (xs.map (·.1)) (by simp) (by simpa using h.row.now.size) (rrow_news (h.row.at_ hw1.ext fun _ _ _ h => h) (by decide)) hone (by simp; omega) (by simp [maxLen]; omega) rfl fun v' w' hrow hapd => ?_
    have hb1 := (hw1.mine _ (.head _)).resolve_left id
    have hE : Ext No w w' := hw1.ext.then hapd.ext fun k hk hd => by simp [Value.ownBlock] at hd; simp at hb1; omega
    refine GL.of_JL (C := Cls w' No []) (Cls.start _ _) ?_
    repeat (first | (apply JL.y; (apply Y_assign; rfl); rfl) | refine JL.nil ?_)
    refine J.ret1 Try.func144 Try.results144 (RV.tm rfl) fun w2 hw2 => ⟨_, rfl, hE.trans hw2.ext, Row.ext0 (by simpa using hrow) hw2.ext, fun g hg => ?_⟩
    have hle := hw1.ext.size
    rcases hapd.at_ with h1 | h1 <;> rw [h1] at hg <;> simp [Value.ownBlock] at hg hb1 <;> omega

/-- lane.sorted, by the lane. -/
theorem sorted_spec {w : World} {ok : Nat → Prop} {v : Value} {xs : List (List Value × Msg)} {kf : Nat} (h : Rd 5 MsgC w ok v xs) (hn : xs.length < 40) (hkf : KeyFn kf) :
    Calls Try.prog 111 #[v, .func (.func kf) #[] #[]] w fun e w' => ∃ r, e = .returned r ∧ Ext No w w' ∧ Own 33 5 MsgC w' (fun k => ok k ∧ k < w.heap.size) r (St.srt skey xs) ∧ (∀ g, r.ownBlock = some g → w.heap.size ≤ g) := by
  refine Calls.of_G2 Try.func111 rfl Try.ntmps111 rfl ?_
  refine J.at (C := Cls w No []) ?_ (Cls.start _ _)
  obtain ⟨hp, hone⟩ := prs_eq (xs := xs) fun z hz => by obtain ⟨ws, h1, _, _, h2⟩ := MsgC.open_ (h.el z hz); exact ⟨ws, h1, h2⟩
  have hrw := prs_row xs hp
  have hsrt : (St.srt mkey (prs xs)).map (fun p => (mch p, p.2)) = St.srt skey xs := by
    rw [show mkey = fun s => skey ((fun p => (mch p, p.2)) s) from rfl, St.srt_map, hp]
  have hpl : (prs xs).length = xs.length := by simp [prs]
  repeat (first | (apply JL.y; (first | (apply Y_move; rfl) | (apply Y_assign; rfl)); rfl) | refine J.seq ?_ | refine J.region ?_ | refine JL.nil ?_ | (apply JL.box; rfl; rfl; rfl; intro _))
  refine JL.call _ rfl rfl (fun w1 hw1 => cloneMsgs_spec (h.ext0 hw1.ext) (by omega)) fun w1 r w2 hw1 ⟨hE, hR, hg⟩ => ?_
  have hc := hw1.ext0 hE
  refine GL.of_JL (C := Cls w2 No []) (Cls.start _ _) ?_
  have hkb := hc.has _ (.head _)
  have hkb1 := (hw1.has _ (.head _)).lt
  have hsz1 := hw1.ext.size
  obtain ⟨A, c, hr, hcap, hmx⟩ := hR.slice
  subst hr
  by_cases h0 : xs = []
  · subst h0
    repeat (first | (apply JL.y; (first | (apply Y_move; rfl) | (apply Y_assign; rfl) | (apply Y_makeFunc; rfl)); rfl) | refine J.seq ?_ | refine J.region ?_ | refine JL.nil ?_ | (apply JL.callq; rfl; rfl; (intro wc hwc; first | exact sortStable_nil)))
    refine J.ret1 Try.func111 Try.results111 (RV.tm rfl) fun w3 hw3 => ⟨_, rfl, hc.ext.trans hw3.ext, ⟨Row.ext0 hR hw3.ext, fun z hz => by simp [St.srt] at hz, fun k hk hv => ?_⟩, fun g hv => ?_⟩
    · have := hg k hv; omega
    · have := hg g hv; omega
  have hR' : MRow w2 (.slice A (xs.map (·.1)).length c) (prs xs) := by unfold MRow; rw [hrw]; exact hR
  obtain ⟨g, hA⟩ := hR'.ad (by rw [hpl]; exact List.length_pos_iff.2 h0)
  subst hA
  have hgn := hg g rfl
  repeat (first | (apply JL.y; (first | (apply Y_move; rfl) | (apply Y_assign; rfl) | (apply Y_makeFunc; rfl)); rfl) | refine J.seq ?_ | refine J.region ?_ | refine JL.nil ?_)
  refine JL.call (fun w3 v w4 => v = .tuple #[] ∧ Ext (fun k => k = g) w3 w4 ∧ MRow w4 (.slice (some ⟨g, 0, none⟩) (xs.map (·.1)).length c) (St.srt mkey (prs xs))) rfl rfl (fun w3 hw3 => (sortStable_spec (hR'.ext0 hw3.ext) hone ⟨kf, hkf, hkb.ext0 hw3.ext⟩ (by simp at hkb1; omega) (by omega)).mono fun e w' h => ⟨_, h.1, rfl, h.2⟩) fun w3 r w4 hw3 ⟨hr, hE4, hR4⟩ => ?_
  subst hr
  refine GL.of_JL (C := Cls w4 No []) (Cls.start _ _) ?_
  repeat (first | (apply JL.y; (first | (apply Y_move; rfl) | (apply Y_assign; rfl)); rfl) | refine J.seq ?_ | refine J.region ?_ | refine JL.nil ?_)
  have hE04 : Ext No w w4 := ((hc.ext.trans hw3.ext)).then hE4 fun k hk hd => by omega
  refine J.ret1 Try.func111 Try.results111 (RV.tm rfl) fun w5 hw5 => ⟨_, rfl, hE04.trans hw5.ext, ⟨?_, fun z hz => ?_, fun k hk hv => ?_⟩, fun g' hv => ?_⟩
  · rw [← hsrt, List.map_map]
    exact hR4.ext0 hw5.ext
  · exact (h.el z (St.srt_mem.1 hz)).old (hE04.trans hw5.ext) fun _ _ _ h => h
  · simp [Value.ownBlock] at hv; omega
  · simp [Value.ownBlock] at hv; omega
end Go.Proofs.Ytmkpbbdocndfbaa
