/- lane: split. -/
import Derived.Test.YtmkpbbdocndfbaaLane3
namespace Go.Proofs.Ytmkpbbdocndfbaa
open Go.RowKit Go.Proofs
attribute [local irreducible] Yl JL J G GL GA GQ DR

abbrev Zs := List (List Value × Msg)
/-- Those whose place and message are so. -/
def selL (P : Nat → Msg → Bool) : Nat → Zs → Zs
  | _, [] => []
  | i, z :: r => if P i z.2 then z :: selL P (i + 1) r else selL P (i + 1) r
theorem selL_snoc (P : Nat → Msg → Bool) (z : List Value × Msg) : ∀ (l : Zs) (i : Nat), selL P i (l ++ [z]) = selL P i l ++ if P (i + l.length) z.2 then [z] else []
  | [], i => by simp [selL]
  | y :: l, i => by
    have h := selL_snoc P z l (i + 1)
    simp only [List.cons_append, selL, h, List.length_cons]
    rw [show i + 1 + l.length = i + (l.length + 1) by omega]
    cases P i y.2 <;> simp
theorem selL_sub (P : Nat → Msg → Bool) : ∀ (l : Zs) (i : Nat), (selL P i l).Sublist l
  | [], _ => List.Sublist.slnil
  | y :: l, i => by
    unfold selL
    split
    · exact (selL_sub P l (i + 1)).cons_cons _
    · exact (selL_sub P l (i + 1)).cons _
/-- What a test does that is handed over. -/
structure Dec (cf : Nat) (cap : List Value) (P : Nat → Msg → Bool) (Dc : Nat → Prop) (I : Nat → World → Prop) : Prop where
  ci : CI Try.prog cf
  keep : ∀ i w1 w2 D, I i w1 → Ext D w1 w2 → (∀ k, Dc k → ¬ D k) → I i w2
  run : ∀ i w1 ws m, i < 1000 → I i w1 → Calls Try.prog cf (.agg (msgC ws m).toArray :: cap).toArray w1 fun e w' => e = .returned (.bool (P i m)) ∧ Ext Dc w1 w' ∧ I (i + 1) w'

/-- Two lists that grow, one that is read. -/
structure Two (w0 : World) (E : Nat → Prop) (w : World) (vo vr vx : Value) (zo zr xs : Zs) : Prop where
  o : Own 33 5 MsgC w (fun k => E k ∧ k < w0.heap.size) vo zo
  r : Own 33 5 MsgC w (fun k => E k ∧ k < w0.heap.size) vr zr
  x : Row w 33 5 vx (xs.map (·.1))
  no : ∀ k, vo.ownBlock = some k → w0.heap.size ≤ k
  nr : ∀ k, vr.ownBlock = some k → w0.heap.size ≤ k
  nx : ∀ k, vx.ownBlock = some k → w0.heap.size ≤ k
  or_ : ∀ k, vo.ownBlock = some k → vr.ownBlock ≠ some k
  xo : ∀ k, vx.ownBlock = some k → vo.ownBlock ≠ some k
  xr : ∀ k, vx.ownBlock = some k → vr.ownBlock ≠ some k
section
variable {w0 w w1 : World} {E D : Nat → Prop} {vo vr vx v' : Value} {zo zr xs : Zs}
theorem Two.swap (h : Two w0 E w vo vr vx zo zr xs) : Two w0 E w vr vo vx zr zo xs := ⟨h.r, h.o, h.x, h.nr, h.no, h.nx, fun k h1 h2 => h.or_ k h2 h1, h.xr, h.xo⟩
theorem Two.ext (h : Two w0 E w vo vr vx zo zr xs) (he : Ext D w w1) (hD : ∀ k, k < w.heap.size → D k → k < w0.heap.size ∧ ¬ E k) : Two w0 E w1 vo vr vx zo zr xs := by
  have key : ∀ (v : Value) g, v.ownBlock = some g → g < w.heap.size → (∀ k, v.ownBlock = some k → w0.heap.size ≤ k) → ¬ D g := fun v g hg hl hn hd => by
    have := hn g hg; have := (hD g hl hd).1; omega
  refine ⟨h.o.ext he (fun g hg => key _ g hg (h.o.row.lt hg) h.no) (fun k hk ho hd => (hD k hk hd).2 ho.1), h.r.ext he (fun g hg => key _ g hg (h.r.row.lt hg) h.nr) (fun k hk ho hd => (hD k hk hd).2 ho.1), h.x.ext he (fun g hg => key _ g hg (h.x.lt hg) h.nx), h.no, h.nr, h.nx, h.or_, h.xo, h.xr⟩
theorem Two.app (h : Two w0 E w vo vr vx zo zr xs) {c : List Value} {m : Msg} (hrow : Row w1 33 5 v' (zo.map (·.1) ++ [c])) (ha : Apd w w1 vo v') (hx : Foot (fun w => MsgC w c m) w (fun k => E k ∧ k < w0.heap.size)) (hs : w0.heap.size ≤ w.heap.size) : Two w0 E w1 v' vr vx (zo ++ [(c, m)]) zr xs := by
  have hn : ∀ k, v'.ownBlock = some k → w0.heap.size ≤ k := fun k hk => by
    rcases ha.at_ with h1 | h1 <;> rw [h1] at hk
    · exact h.no k hk
    · injection hk with hk; omega
  have hap : ∀ k, E k ∧ k < w0.heap.size → v'.ownBlock ≠ some k := fun k hk hv => by have := hn k hv; omega
  have hsep : ∀ {v : Value}, (∀ k, v.ownBlock = some k → k < w.heap.size) → (∀ k, v.ownBlock = some k → vo.ownBlock ≠ some k) → ∀ k, v.ownBlock = some k → v'.ownBlock ≠ some k := fun {v} hl hv k hk hk' => by
    rcases ha.at_ with h1 | h1 <;> rw [h1] at hk'
    · exact hv k hk hk'
    · injection hk' with hk'; have := hl k hk; omega
  refine ⟨(h.o.append hrow ha hx fun k _ hk hv => by have := h.no k hv; omega).mono (fun k _ hk => ?_) hap, h.r.ext ha.ext (fun g hg hd => h.or_ g hd hg) (fun k _ hk hv => by have := h.no k hv; omega), h.x.ext ha.ext (fun g hg hd => h.xo g hg hd), hn, h.nr, h.nx, fun k h1 h2 => ?_, ?_, h.xr⟩
  · rcases hk.1 with h1 | h1 <;> exact h1
  · exact hsep (fun k hk => h.r.row.lt hk) (fun k h1 h2 => h.or_ k h2 h1) k h2 h1
  · exact hsep (fun k hk => h.x.lt hk) h.xo
end
set_option maxHeartbeats 2000000 in
/-- lane.split. -/
theorem split_spec {w : World} {g : Nat} {O E : Nat → Prop} {ln pl : Int} {ms : List Msg} (h : LObj w g O E ln pl ms) {cf : Nat} {cap : List Value} {P : Nat → Msg → Bool} {Dc : Nat → Prop} {I : Nat → World → Prop} (hd : Dec cf cap P Dc I) (hI : I 0 w) (hDc : ∀ k, Dc k → k < w.heap.size ∧ ¬ O k ∧ ¬ E k) :
    Calls Try.prog 105 #[.pointer (some ⟨g, 0, none⟩), .func (.func cf) #[] cap.toArray] w fun e w' => ∃ r, e = .returned r ∧ Ext (fun k => O k ∨ Dc k) w w' ∧ ∃ xs : Zs, xs.map (·.2) = St.srt Msg.lane ms ∧
      (∃ O' E', LObj w' g O' E' ln pl ((selL (fun i m => !P i m) 0 xs).map (·.2)) ∧ (∀ k, O' k → O k ∨ w.heap.size ≤ k) ∧ (∀ k, E' k → E k) ∧ (∀ k, r.ownBlock = some k → ¬ O' k)) ∧
      Own 33 5 MsgC w' (fun k => E k ∧ k < w.heap.size) r (selL P 0 xs) ∧ (∀ k, r.ownBlock = some k → w.heap.size ≤ k) := by
  have hlen := h.len
  obtain ⟨sl, zs, hb, hsl, hOwn, hz⟩ := h.ex
  have hgsz : g < w.heap.size := hb.lt
  have hEg : ¬ E g := h.oe g h.og
  have hzl : zs.length ≤ 24 := by have := congrArg List.length hz; simp at this; omega
  have hl2 : Foot (Lds Try.prog 26 ⟨g, 2, none⟩ sl) w (fun k => k = g) := hb.foot.imp fun w hb => Lds.one hb rfl
  have hci := hd.ci
  refine Calls.of_G2 Try.func105 rfl Try.ntmps105 rfl ?_
  refine J.at (C := Cls w No []) ?_ (Cls.start _ _)
  repeat (first | (apply JL.y; (first | (apply Y_move; rfl) | (apply Y_assign; rfl) | (apply Y_pnil_f; rfl)); rfl) | refine J.seq ?_ | refine J.region ?_ | refine JL.nil ?_)
  apply J.cond_f rfl
  repeat (first | (apply JL.y; (first | (apply Y_move; rfl) | (apply Y_assign; rfl) | (apply Y_fieldAddr; rfl; rfl) | (apply Y_loadP; rfl; (intro wc hwc; first | exact hl2.at_ hwc.ext fun _ _ _ h => h)) | (apply Y_nilCheck; rfl)); rfl) | refine J.seq ?_ | refine J.region ?_ | refine JL.nil ?_ | refine J.skip ?_)
  refine JL.call _ rfl rfl (fun w1 hw1 => sorted_spec (hOwn.reads.ext0 hw1.ext) (by omega) keySplit) fun w1 r w2 hw1 ⟨hE, hO, hg⟩ => ?_
  refine GL.of_JL (C := Cls w2 No []) (Cls.start _ _) ?_
  have hE2 := hw1.ext.trans hE
  have hs1 := hw1.ext.size
  obtain ⟨xs, hxs⟩ : ∃ xs, xs = St.srt skey zs := ⟨_, rfl⟩
  rw [← hxs] at hO
  have hxl : xs.length ≤ 24 := by rw [hxs, St.srt_len]; exact hzl
  have hxm : xs.map (·.2) = St.srt Msg.lane ms := by rw [hxs, srt_snd, hz]
  obtain ⟨A, c, hr, hcap, hmx⟩ := hO.slice
  subst hr
  have hOE : ∀ k, E k → ¬ O k := fun k he ho => h.oe k ho he
  have hel : ∀ z ∈ xs, Foot (fun w => MsgC w z.1 z.2) w E := fun z hz' => hOwn.el z (by rw [hxs] at hz'; exact St.srt_mem.1 hz')
  have hg' : ∀ k, (Value.slice A xs.length c).ownBlock = some k → w.heap.size ≤ k := fun k hk => Nat.le_trans hs1 (hg k hk)
  have hTwo : Two w E w2 (.slice none 0 0) (.slice none 0 0) (.slice A xs.length c) [] [] xs :=
    ⟨Own.nil _ _ _ _ _, Own.nil _ _ _ _ _, hO.row, fun k hk => by simp [Value.ownBlock] at hk, fun k hk => by simp [Value.ownBlock] at hk, hg', fun k hk => by simp [Value.ownBlock] at hk, fun k _ hk => by simp [Value.ownBlock] at hk, fun k _ hk => by simp [Value.ownBlock] at hk⟩
  clear hO hE hg hw1
  repeat (first | (apply JL.y; (first | (apply Y_move; rfl) | (apply Y_len; rfl)); rfl) | refine JL.nil ?_ | refine J.block ?_)
  refine J.intro fun wl hwl => G.loop (Inv := fun mm e wl => ∃ (i : Nat) (vo vr : Value), i ≤ xs.length ∧ mm = xs.length - i ∧ I i wl ∧ Ext Dc w wl ∧ Two w E wl vo vr (.slice A xs.length c) (selL P 0 (xs.take i)) (selL (fun i m => !P i m) 0 (xs.take i)) xs ∧ e = [(0, .pointer (some ⟨g, 0, none⟩)), (1, .func (.func cf) #[] cap.toArray), (5, vo), (6, vr), (15, .slice A xs.length c), (16, .int .i64 xs.length), (17, .int .i64 i)])
    _ _ ⟨0, _, _, Nat.zero_le _, rfl, hd.keep _ _ _ _ hI (hE2.trans hwl.ext) fun _ _ h => h, (hE2.trans hwl.ext).no, hTwo.ext hwl.ext fun _ _ h => h.elim, rfl⟩ ⟨rfl, rfl, rfl, rfl, rfl, rfl, rfl, trivial⟩ ?_
  rintro mm e w3 ⟨i, vo, vr, hi, rfl, hI3, hE3, hT3, rfl⟩ ih
  refine J.at (C := Cls w3 No []) ?_ (Cls.start _ _)
  have hs3 := hE3.size
  repeat (first | (apply JL.y; (apply Y_lss; rfl; rfl); rfl) | refine J.seq ?_ | refine J.region ?_ | refine JL.nil ?_)
  refine J.cond_d rfl (fun hlt => ?_) (fun hlt => ?_)
  case refine_2 =>
    have hii : i = xs.length := by omega
    subst hii
    rw [List.take_length] at hT3
    have hg3 := hb.keep hE3 fun hk => (hDc g hk).2.1 h.og
    refine J.imp (C' := Cls w3 (fun k => k = g) [⟨g, [.int .i64 ln, .int .i64 pl, sl], 139⟩]) ?_ fun w' hw' => ⟨hw'.ext.no, by simpa using hg3.ext0 hw'.ext, ⟨by simp, trivial⟩, by simp⟩
    have hv1 := hT3.r.row.one
    repeat (first | (apply JL.y; (first | (apply Y_move; rfl) | (apply Y_assign; rfl) | (apply Y_fieldAddr; rfl; rfl) | (apply Y_nilCheck; rfl)); rfl) | refine J.seq ?_ | refine J.region ?_ | refine JL.nil ?_ | (apply JL.store; (apply St_1 0; rfl; rfl; exact inferInstance; (first | rfl | assumption); rfl; rfl; (first | (focus (simp only [List.set_cons_zero, List.set_cons_succ]; done)) | (simp only [List.set_cons_zero, List.set_cons_succ]; rfl)))) | (apply J.exit; rfl))
    refine J.ret1 Try.func105 Try.results105 (RV.tm rfl) fun w4 hw4 => ?_
    have hg4 : BlkIn w4 ⟨g, [.int .i64 ln, .int .i64 pl, vr], 139⟩ := hw4.has _ (.head _)
    have hE4 := hw4.ext
    have hT4 := hT3.ext hE4 (fun k _ hk => by
      have hk' : k = g := hk
      subst hk'; exact ⟨hgsz, hEg⟩)
    have hs4 := hE4.size
    have hmem : ∀ m' ∈ (selL (fun i m => !P i m) 0 xs).map (·.2), m' ∈ ms := fun m' hm' => by
      have h1 : m' ∈ xs.map (·.2) := ((selL_sub _ xs 0).map _).subset hm'
      rw [hxm] at h1
      exact St.srt_mem.1 h1
    refine ⟨_, rfl, (hE3.mono fun k _ hk => .inr hk).then hE4 fun k _ hk => .inl (hk ▸ h.og), xs, hxm, ⟨fun k => k = g ∨ vr.ownBlock = some k, fun k => E k ∧ k < w.heap.size, ⟨⟨vr, _, hg4, fun k hk => ⟨.inr hk, fun hkg => by have := hT3.nr k hk; omega⟩, hT4.r, rfl⟩, .inl rfl, fun k hk he => ?_, fun k hk => ?_, h.hln, h.hpl, fun m' hm' => h.wf m' (hmem m' hm'), fun q => ?_⟩, fun k hk => ?_, fun k hk => hk.1, fun k hk hk' => ?_⟩, hT4.o, hT3.no⟩
    · rcases hk with rfl | hk
      · exact hEg he.1
      · have := hT3.nr k hk; omega
    · rcases hk with (rfl | hk) | hk
      · omega
      · exact hT4.r.row.lt hk
      · omega
    · refine Int.le_trans ?_ (h.few q)
      have h1 := (((selL_sub (fun i m => !P i m) xs 0).map (·.2)).filter (fun m => m.lane == q)).length_le
      rw [hxm, filt_srt] at h1
      omega
    · rcases hk with rfl | hk
      · exact .inl h.og
      · exact .inr (hT3.nr k hk)
    · rcases hk' with rfl | hk'
      · have := hT3.no _ hk; omega
      · exact hT3.or_ k hk hk'
  have hil : i < xs.length := by omega
  obtain ⟨z, hx⟩ : ∃ z, xs[i]? = some z := ⟨_, List.getElem?_eq_getElem hil⟩
  have hzm := List.mem_of_getElem? hx
  have hRd : Rd 5 MsgC w3 (fun k => (E k ∧ k < w.heap.size) ∨ (Value.slice A xs.length c).ownBlock = some k) (.slice A xs.length c) xs :=
    ⟨((Row.foot hT3.x).imp fun w hw => Row.rrow hw).mono fun k _ hk => .inr hk, fun z hz => ((hel z hz).old hE3 fun k _ he hk => (hDc k hk).2.2 he).mono fun k _ hk => .inl hk⟩
  obtain ⟨ad, _, e1⟩ := hRd.base (by omega) (by omega)
  cases e1
  have l1 := hRd.lds (P := Try.prog) (t := 33) hx
  obtain ⟨ws, hws, hwr, hl8, ho⟩ := MsgC.open_ (hel z hzm)
  have hmf := (MsgC.mk hwr hl8).old hE3 fun k _ he hk => (hDc k hk).2.2 he
  obtain ⟨z1, m⟩ := z
  simp only at hws hwr hl8 hmf
  subst hws
  unfold maxLen at hmx
  have hso : (selL P 0 (xs.take (i + 1))) = selL P 0 (xs.take i) ++ if P i m then [(msgC ws m, m)] else [] := by
    rw [take_snoc hx, selL_snoc, Nat.zero_add, List.length_take, Nat.min_eq_left hi]
  have hsr : (selL (fun i m => !P i m) 0 (xs.take (i + 1))) = selL (fun i m => !P i m) 0 (xs.take i) ++ if (!P i m) then [(msgC ws m, m)] else [] := by
    rw [take_snoc hx, selL_snoc, Nat.zero_add, List.length_take, Nat.min_eq_left hi]
  have hol : (selL P 0 (xs.take i)).length ≤ 24 := Nat.le_trans (selL_sub _ _ _).length_le (by rw [List.length_take]; omega)
  have hrl : (selL (fun i m => !P i m) 0 (xs.take i)).length ≤ 24 := Nat.le_trans (selL_sub _ _ _).length_le (by rw [List.length_take]; omega)
  repeat (first | refine J.seq ?_ | refine J.region ?_ | refine J.skip ?_ | refine J.block ?_)
  apply JL.y (Y_indexAddr rfl rfl (by omega)) rfl
  apply JL.y (Y_loadP rfl fun w hw => l1.at_ hw.ext fun _ _ _ h => h) rfl
  unfold msgC
  repeat (first | (apply JL.y; (first | (apply Y_move; rfl) | (apply Y_loadW 0; rfl; rfl; exact inferInstance; rfl)); rfl) | refine J.seq ?_ | refine J.region ?_ | refine JL.nil ?_ | (apply JL.alloc; rfl; rfl; intro _) | (apply JL.store; (apply St_W 0; rfl; rfl; rfl; exact inferInstance; rfl; rfl; (first | (focus (simp [Value.oneCell']; done)) | (simp [Value.oneCell']; assumption) | (simp [Value.oneCell']; exact ⟨by assumption, by assumption⟩)); (first | (focus (simp only [List.set_cons_zero]; done)) | (simp only [List.set_cons_zero]; rfl)))))
  refine JL.callC (fun w4 v w5 => v = .bool (P i m) ∧ Ext Dc w4 w5 ∧ I (i + 1) w5) rfl hci rfl rfl (fun w4 hw4 => (hd.run i w4 ws m (by omega) (hd.keep _ _ _ _ hI3 hw4.ext fun _ _ h => h)).mono fun en w' he => ⟨_, he.1, rfl, he.2⟩) fun w4 v w5 hw4 ⟨hv, hE5, hI5⟩ => ?_
  subst hv
  have hb8 := hw4.has _ (.head _)
  have hm8 := (hw4.mine _ (.head _)).resolve_left id
  have hs4 := hw4.ext.size
  have hb5 := hb8.keep hE5 fun hk => by have := (hDc _ hk).1; omega
  have hE35 : Ext Dc w3 w5 := hw4.ext.no.trans hE5
  refine GL.of_JL (C := Cls w5 _ [_]) (Cls.start1 hb5) ?_
  repeat (first | refine JL.nil ?_)
  cases hP : P i m with
  | true =>
    rw [hP] at hso hsr
    refine J.cond_t rfl ?_
    repeat (first | (apply JL.y; (first | (apply Y_move; rfl) | (apply Y_loadW 0; rfl; rfl; exact inferInstance; rfl)); rfl) | refine J.region ?_ | (apply JL.bslice1; rfl; rfl; rfl; rfl; rfl; rfl; intro _))
    refine JL.intro fun w6 hw6 => ?_
    have hE36 : Ext Dc w3 w6 := hE35.then hw6.ext fun k hk hkb => by
      have hkb' : k = _ := hkb
      rw [hkb'] at hk; simp only at hm8 hk; omega
    have hT6 := hT3.ext hE36 fun k _ hk => ⟨(hDc k hk).1, (hDc k hk).2.2⟩
    have hmf6 := hmf.ext hE36 fun k _ hk hd' => (hDc k hd').2.2 hk.1
    have hI6 := hd.keep _ _ _ _ hI5 hw6.ext fun k hk hkb => by
      have hkb' : k = _ := hkb
      have := (hDc k hk).1; rw [hkb'] at this; simp only at hm8 this; omega
    refine GL.append1 rfl rfl hT6.o.row (hw6.has _ (.head _)) rfl rfl (msgC_one ho) (by simp; omega) rfl rfl fun v' w7 hrow hapd => ?_
    have hT7 := (hT6.app hrow hapd hmf6 (Nat.le_trans hs3 hE36.size))
    have hE37 : Ext Dc w w7 := (hE3.trans hE36).then hapd.ext fun k hk hv => by have := hT6.no k hv; omega
    have hI7 := hd.keep _ _ _ _ hI6 hapd.ext fun k hk hv => by have := (hDc k hk).1; have := hT6.no k hv; omega
    refine GL.of_JL (C := Cls w7 No []) (Cls.start _ _) ?_
    repeat (first | (apply JL.y; (first | (apply Y_move; rfl) | (apply Y_assign; rfl) | (apply Y_add; rfl; rfl; omega)); rfl) | refine J.region ?_ | refine JL.nil ?_ | refine J.inBlock ?_)
    refine J.intro fun w8 hw8 => ih (xs.length - (i + 1)) (by omega) _ _ w8 ?_ ⟨i + 1, v', vr, hil, rfl, hd.keep _ _ _ _ hI7 hw8.ext fun _ _ h => h, hE37.trans hw8.ext.no, ?_, rfl⟩
    · exact ⟨rfl, rfl, rfl, rfl, rfl, rfl, rfl, trivial⟩
    · rw [hso, hsr]
      simpa [msgC] using hT7.ext hw8.ext fun _ _ h => h.elim
  | false =>
    rw [hP] at hso hsr
    refine J.cond_f rfl ?_
    repeat (first | (apply JL.y; (first | (apply Y_move; rfl) | (apply Y_loadW 0; rfl; rfl; exact inferInstance; rfl)); rfl) | refine J.region ?_ | (apply JL.bslice1; rfl; rfl; rfl; rfl; rfl; rfl; intro _))
    refine JL.intro fun w6 hw6 => ?_
    have hE36 : Ext Dc w3 w6 := hE35.then hw6.ext fun k hk hkb => by
      have hkb' : k = _ := hkb
      rw [hkb'] at hk; simp only at hm8 hk; omega
    have hT6 := hT3.ext hE36 fun k _ hk => ⟨(hDc k hk).1, (hDc k hk).2.2⟩
    have hmf6 := hmf.ext hE36 fun k _ hk hd' => (hDc k hd').2.2 hk.1
    have hI6 := hd.keep _ _ _ _ hI5 hw6.ext fun k hk hkb => by
      have hkb' : k = _ := hkb
      have := (hDc k hk).1; rw [hkb'] at this; simp only at hm8 this; omega
    refine GL.append1 rfl rfl hT6.swap.o.row (hw6.has _ (.head _)) rfl rfl (msgC_one ho) (by simp; omega) rfl rfl fun v' w7 hrow hapd => ?_
    have hT7 := (hT6.swap.app hrow hapd hmf6 (Nat.le_trans hs3 hE36.size)).swap
    have hE37 : Ext Dc w w7 := (hE3.trans hE36).then hapd.ext fun k hk hv => by have := hT6.swap.no k hv; omega
    have hI7 := hd.keep _ _ _ _ hI6 hapd.ext fun k hk hv => by have := (hDc k hk).1; have := hT6.swap.no k hv; omega
    refine GL.of_JL (C := Cls w7 No []) (Cls.start _ _) ?_
    repeat (first | (apply JL.y; (first | (apply Y_move; rfl) | (apply Y_assign; rfl) | (apply Y_add; rfl; rfl; omega)); rfl) | refine J.region ?_ | refine JL.nil ?_ | refine J.inBlock ?_)
    refine J.intro fun w8 hw8 => ih (xs.length - (i + 1)) (by omega) _ _ w8 ?_ ⟨i + 1, vo, v', hil, rfl, hd.keep _ _ _ _ hI7 hw8.ext fun _ _ h => h, hE37.trans hw8.ext.no, ?_, rfl⟩
    · exact ⟨rfl, rfl, rfl, rfl, rfl, rfl, rfl, trivial⟩
    · rw [hso, hsr]
      simpa [msgC] using hT7.ext hw8.ext fun _ _ h => h.elim
end Go.Proofs.Ytmkpbbdocndfbaa
