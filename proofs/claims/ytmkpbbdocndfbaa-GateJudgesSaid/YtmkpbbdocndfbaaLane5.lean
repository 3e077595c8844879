/- lane: Take, Sweep, Flush, Peek. -/
import Derived.Test.YtmkpbbdocndfbaaLane4
namespace Go.Proofs.Ytmkpbbdocndfbaa
open Go.RowKit Go.Proofs
attribute [local irreducible] Yl JL J G GL GA GQ DR

theorem selL_filter (p : Msg → Bool) : ∀ (l : Zs) (i : Nat), selL (fun _ m => p m) i l = l.filter (fun z => p z.2)
  | [], _ => rfl
  | z :: r, i => by
    unfold selL
    rw [selL_filter p r (i + 1), List.filter_cons]
theorem selL_none : ∀ (l : Zs) (i : Nat), 0 < i → selL (fun i _ => decide (i = 0)) i l = []
  | [], _, _ => rfl
  | z :: r, i, h => by
    unfold selL
    rw [selL_none r (i + 1) (by omega), if_neg (by simp; omega)]
theorem selL_all : ∀ (l : Zs) (i : Nat), 0 < i → selL (fun i _ => !decide (i = 0)) i l = l
  | [], _, _ => rfl
  | z :: r, i, h => by
    unfold selL
    rw [selL_all r (i + 1) (by omega), if_pos (by simp; omega)]
theorem selL_take1 (l : Zs) : selL (fun i _ => decide (i = 0)) 0 l = l.take 1 := by
  cases l with
  | nil => rfl
  | cons z r => unfold selL; rw [selL_none r 1 (by omega)]; simp
theorem selL_drop1 (l : Zs) : selL (fun i _ => !decide (i = 0)) 0 l = l.drop 1 := by
  cases l with
  | nil => rfl
  | cons z r => unfold selL; rw [selL_all r 1 (by omega)]; simp
def zeroMsg : Msg := ⟨[], 0, 0, 0, 0⟩
/-- What is taken of a row, and what stays. -/
def takeR : List Msg → Msg × Bool × List Msg
  | [] => (zeroMsg, false, [])
  | m :: r => (m, true, r)
/-- The closure that lane.Take hands over. -/
theorem takeDec (cb : Nat) : Dec 106 [.pointer (some ⟨cb, 0, none⟩)] (fun i _ => decide (i = 0)) (fun k => k = cb) (fun i w => BlkIn w ⟨cb, [.int .i64 i], 3⟩) where
  ci := inferInstance
  keep := fun i w1 w2 D h he hd => h.keep he (hd cb rfl)
  run := fun i w1 ws m hi h => by
    refine Calls.of_G2 Try.func106 rfl Try.ntmps106 rfl ?_
    refine J.at (C := Cls w1 (fun k => k = cb) [⟨cb, [.int .i64 i], 3⟩]) ?_ (Cls.start1 h)
    unfold msgC
    repeat (first | (apply JL.y; (first | (apply Y_assign; rfl) | (apply Y_load1 1; rfl; rfl; rfl; exact inferInstance) | (apply Y_eql; rfl; rfl) | (apply Y_add; rfl; rfl; omega)); rfl) | refine J.seq ?_ | refine J.region ?_ | refine JL.nil ?_ | (apply JL.box; rfl; rfl; rfl; intro _) | (apply JL.store; (apply St_1 1; rfl; rfl; exact inferInstance; (first | rfl | assumption); rfl; rfl; (first | (focus (simp only [List.set_cons_zero, List.set_cons_succ]; done)) | (simp only [List.set_cons_zero, List.set_cons_succ]; rfl)))))
    refine J.ret1 Try.func106 Try.results106 (RV.tm rfl) fun w' hw' => ⟨ret_bool (by simp; omega), hw'.ext, ?_⟩
    exact hw'.has _ (.tail _ (.head _))

theorem zero_msg (w : World) (ok : Nat → Prop) : Foot (fun w => RMsg w (.agg (msgC (.slice none 0 0) zeroMsg).toArray) zeroMsg) w ok := Foot.pure fun w => ⟨_, rfl, RRow.nil w 1, by simp [zeroMsg]⟩
theorem drop_map (xs : Zs) : ((xs.drop 1).map (·.2)) = (takeR (xs.map (·.2))).2.2 := by
  cases xs <;> rfl
set_option maxHeartbeats 1000000 in
/-- lane.Take. -/
theorem laneTake_spec {w : World} {g : Nat} {O E : Nat → Prop} {ln pl : Int} {ms : List Msg} (h : LObj w g O E ln pl ms) :
    Calls Try.prog 34 #[.pointer (some ⟨g, 0, none⟩)] w fun e w' => ∃ r, e = .returned r ∧ ∃ v, r = .tuple #[v, .bool (takeR (St.srt Msg.lane ms)).2.1] ∧ Foot (fun w => RMsg w v (takeR (St.srt Msg.lane ms)).1) w' (fun k => E k ∧ k < w.heap.size) ∧ LTo w w' g O E ln pl (takeR (St.srt Msg.lane ms)).2.2 := by
  have hElt := h.lt
  refine Calls.of_G1 Try.func34 rfl Try.ntmps34 rfl ?_
  refine J.at (C := Cls w No []) ?_ (Cls.start _ _)
  repeat (first | (apply JL.y; (first | (apply Y_move; rfl) | (apply Y_assign; rfl) | (apply Y_makeFunc; rfl)); rfl) | refine J.seq ?_ | refine J.region ?_ | refine JL.nil ?_ | (apply JL.alloc; rfl; rfl; intro _) | (apply JL.store; (apply St_1 0; rfl; rfl; exact inferInstance; (first | rfl | assumption); rfl; rfl; (first | (focus (simp only [List.set_cons_zero]; done)) | (simp only [List.set_cons_zero]; rfl)))))
  rename_i b2 cb
  have hdec := takeDec cb
  refine JL.call (fun w1 r w2 => _) rfl rfl (fun w1 hw1 => (split_spec (h.ext0 hw1.ext) hdec (hw1.has _ (.head _)) (fun k hk => by
    subst hk
    have h1 := (hw1.has _ (.head _)).lt
    have h2 := (hw1.mine _ (.head _)).resolve_left id
    simp only at h1 h2
    exact ⟨h1, fun ho => by have := hElt _ (.inl ho); omega, fun ho => by have := hElt _ (.inr ho); omega⟩))) fun w1 r w2 hw1 ⟨hE, xs, hxm, ⟨O', E', hL, hO', hE', hrO⟩, hOwn, hrn⟩ => ?_
  have hs1 := hw1.ext.size
  have hs2 := hE.size
  have hb2 := hw1.has _ (.tail _ (.head _))
  have hm2 := (hw1.mine _ (.tail _ (.head _))).resolve_left id
  have hlt2 := hb2.lt
  have hcb2 : b2 ≠ cb := fun h => by have := hw1.apart.1 _ (.head _); simp at this; exact this h
  simp only at hm2 hlt2
  have hb3 := hb2.keep hE (by
    simp only
    rintro (ho | ho)
    · have := hElt _ (.inl ho); omega
    · exact hcb2 ho)
  have hmc := (hw1.mine _ (.head _)).resolve_left id
  simp only at hmc
  have hE02 : Ext O w w2 := hw1.ext.no.then hE fun k hk hd => hd.resolve_right fun h => by omega
  rw [selL_take1] at hOwn
  rw [selL_drop1, drop_map, hxm] at hL
  obtain ⟨A, c, hr, hcap, hmx⟩ := hOwn.slice
  subst hr
  refine GL.of_JL (C := Cls w2 _ [_]) (Cls.start1 hb3) ?_
  repeat (first | (apply JL.y; (first | (apply Y_move; rfl) | (apply Y_assign; rfl) | (apply Y_len; rfl) | (apply Y_eql; rfl; rfl)); rfl) | refine J.seq ?_ | refine J.region ?_ | refine JL.nil ?_)
  have hlt3 := hb3.lt
  simp only at hlt3
  have hfin : ∀ w4 : World, Ext (fun k => k = b2) w2 w4 → LTo w w4 g O E ln pl (takeR (St.srt Msg.lane ms)).2.2 := fun w4 he => by
    refine ⟨hE02.then he fun k hk hd => ?_, O', E', hL.ext he fun k hk hd => ?_, fun k hk => ?_, fun k hk => .inl (hE' k hk)⟩
    · have hd' : k = b2 := hd
      omega
    · have hd' : k = b2 := hd
      subst hd'
      rcases hk with hk | hk
      · rcases hO' _ hk with h1 | h1
        · have := hElt _ (.inl h1); omega
        · have h3 := hw1.ext.size
          have := (hw1.has _ (.tail _ (.head _))).lt
          simp only at this; omega
      · have := hElt _ (.inr (hE' _ hk)); omega
    · rcases hO' _ hk with h1 | h1
      · exact .inl h1
      · exact .inr (by omega)
  cases xs with
  | nil =>
    have hs : St.srt Msg.lane ms = [] := hxm.symm
    refine J.cond_t rfl ?_
    repeat (first | (apply JL.y; (first | (apply Y_assign; rfl) | (apply Y_build; rfl; exact inferInstance)); rfl) | refine J.seq ?_ | refine J.region ?_ | refine JL.nil ?_ | (apply JL.store; (apply St_W 0; rfl; rfl; rfl; exact inferInstance; rfl; rfl; (first | (focus (simp [Value.oneCell']; done)) | (simp [Value.oneCell']; assumption) | (simp [Value.oneCell']; exact ⟨by assumption, by assumption⟩)); (first | (focus (simp only [List.set_cons_zero]; done)) | (simp only [List.set_cons_zero]; rfl)))))
    refine J.ret2 Try.func34 Try.results34 (RV.W 0 rfl rfl rfl) (RV.tm rfl) fun w4 hw4 => ⟨_, rfl, _, by rw [hs]; rfl, ?_, hfin w4 hw4.ext⟩
    rw [hs]
    exact zero_msg w4 _
  | cons z xs =>
    have hs : St.srt Msg.lane ms = z.2 :: xs.map (·.2) := hxm.symm
    have hzf := hOwn.el z (by simp)
    obtain ⟨ws, hws, hwr, hl8, ho⟩ := MsgC.open_ hzf
    have hRd := hOwn.reads
    obtain ⟨ad, _, e1⟩ := hRd.base (by omega) (by simp)
    cases e1
    have l1 := hRd.lds (P := Try.prog) (t := 33) (i := 0) (z := z) rfl
    have hbO : ∀ k, ((E k ∧ k < w1.heap.size) ∨ (Value.slice (some ad) ((z :: xs).take 1).length c).ownBlock = some k) → ¬ k = b2 := fun k hk hkb => by
      subst hkb
      rcases hk with hk | hk
      · have := hElt _ (.inr hk.1); omega
      · have := hrn _ hk; have := (hw1.has _ (.tail _ (.head _))).lt; simp only at this; omega
    refine J.cond_f rfl ?_
    repeat (first | (apply JL.y; (apply Y_move; rfl); rfl) | refine J.seq ?_ | refine J.region ?_ | refine J.skip ?_)
    apply JL.y (Y_indexAddr rfl rfl (by simp)) rfl
    apply JL.y (Y_loadP rfl fun w hw => l1.at_ hw.ext fun k _ hk => hbO k hk) rfl
    rw [hws]
    unfold msgC
    repeat (first | (apply JL.y; (apply Y_assign; rfl); rfl) | refine JL.nil ?_ | (apply JL.store; (apply St_W 0; rfl; rfl; rfl; exact inferInstance; rfl; rfl; (first | (focus (simp [Value.oneCell']; done)) | (simp [Value.oneCell']; assumption) | (simp [Value.oneCell']; exact ⟨by assumption, by assumption⟩)); (first | (focus (simp only [List.set_cons_zero]; done)) | (simp only [List.set_cons_zero]; rfl)))))
    refine J.ret2 Try.func34 Try.results34 (RV.W 0 rfl rfl rfl) (RV.tm rfl) fun w4 hw4 => ⟨_, rfl, _, by rw [hs]; rfl, ?_, hfin w4 hw4.ext⟩
    rw [hs]
    refine (((RMsg.mk hwr hl8).ext hw4.ext fun k _ hk => hbO k (.inl hk))).mono fun k _ hk => ⟨hk.1, hElt k (.inr hk.1)⟩
end Go.Proofs.Ytmkpbbdocndfbaa
