/- law 12: GateDoors, the walk. -/
import Derived.Test.YtmkpbbdocndfbaaULaw12b
namespace Go.Proofs.Ytmkpbbdocndfbaa
open Go.RowKit Go.Proofs
attribute [local irreducible] Yl JL J G GL GA GQ DR DRA

set_option maxHeartbeats 4000000 in
theorem gateDoors_walk {W : World} {va : Value} {za : List (List Value × St12)} (k : Ch) (ha : Rd 6 St12C W All va za) :
    Calls Try.prog 8 #[.agg (chC k).toArray, va] W fun e w' => e = .returned (.bool true) ∧ Ext No W w' := by
  have hg := goodC_in k
  obtain ⟨kg, hkg⟩ : ∃ kg, kg = goodC k := ⟨_, rfl⟩
  have hgood : ∀ w, Calls Try.prog 49 #[.agg (chC k).toArray] w fun e w' => e = .returned (.agg (chC kg).toArray) ∧ Ext No w w' := by rw [hkg]; exact good12_spec k
  rw [← hkg] at hg
  obtain ⟨g1, g2, g3, g4, g5, g6, g7, g8⟩ := hg
  clear hkg
  have cln : cl 1 3 kg.lanes = kg.lanes := by unfold cl; omega
  have cld : cl 1 8 kg.depth = kg.depth := by unfold cl; omega
  obtain ⟨A, c, rfl, hca, hma⟩ := ha.slice
  refine Calls.of_G2 Try.func8 rfl Try.ntmps8 rfl ?_
  refine J.at (C := Cls W No []) ?_ (Cls.start _ _)
  unfold chC
  repeat (first | (apply JL.y; (first | (apply Y_assign; rfl) | (apply Y_loadW 0; rfl; rfl; exact inferInstance; rfl) | (apply Y_not; rfl)); rfl) | refine J.seq ?_ | refine J.region ?_ | refine JL.nil ?_ | (apply JL.callq; rfl; rfl; (intro wc hwc; first | exact lives12_spec _ | exact hgood _)) | (apply JL.box; rfl; rfl; rfl; intro _) | refine J.skip ?_ | refine J.cond_f rfl ?_)
  unfold chC
  repeat (first | (apply JL.y; (apply Y_loadW 0; rfl; rfl; exact inferInstance; rfl); rfl) | refine J.seq ?_ | refine J.region ?_ | refine JL.nil ?_ | (apply JL.store; (apply St_W 0; rfl; rfl; rfl; exact inferInstance; rfl; rfl; (first | (focus (simp [Value.oneCell']; done)) | (simp [Value.oneCell']; assumption) | (simp [Value.oneCell']; exact ⟨by assumption, by assumption⟩)); (first | (focus (simp only [List.set_cons_zero]; done)) | (simp only [List.set_cons_zero]; rfl)))))
  rename_i b2
  refine JL.call _ rfl rfl (fun w1 hw1 => gNew_spec kg w1) fun w1 r w2 hw1 ⟨g, gl, gb, hr, hE2, hG2, hgl, hll, hbl⟩ => ?_
  subst hr
  have hX1 := hw1.ext
  have hB2 := (hw1.ext0 hE2).has _ (.head _)
  have b2l : W.heap.size ≤ b2 := hw1.fresh fun _ h => h.elim
  have b2u := (hw1.has _ (.head _)).lt
  simp only at b2u
  obtain ⟨hS2, hN2⟩ := GSt.start hX1 hE2 hG2 hgl hll hbl
  have hnb2 : ∀ q, GB g gb (fun q => q = gl) q ∨ No q → q ≠ b2 := fun q hq => by have := hN2 q hq; omega
  refine GL.of_JL (C := Cls w2 (fun q => q = b2) [_]) (Cls.start1 hB2) ?_
  repeat (first | (apply JL.y; (first | (apply Y_move; rfl) | (apply Y_assign; rfl)); rfl) | refine J.seq ?_ | refine J.region ?_ | refine JL.nil ?_ | (apply JL.callq; rfl; rfl; (intro wc hwc; first | exact early12_spec hca _)) | refine J.block ?_)
  obtain ⟨n, hn⟩ : ∃ n, n = min za.length 80 := ⟨_, rfl⟩
  have hnl : n ≤ za.length := by omega
  have hs : Rd 6 St12C W All (.slice A n c) (za.take n) := ha.take hnl
  have htl : (za.take n).length = n := by rw [List.length_take]; omega
  obtain ⟨steps, hst⟩ : ∃ s, s = za.take n := ⟨_, rfl⟩
  rw [← hst] at hs htl
  rw [← hn]
  refine J.intro fun wl hwl => G.loop (Inv := fun mm e wl => ∃ (i : Nat) (R t rd seq : Int) (ms : List Msg) (Ol E : Nat → Prop), i ≤ n ∧ mm = n - i ∧ (0 ≤ R ∧ R ≤ i) ∧ (0 ≤ seq ∧ seq ≤ i) ∧ GSt W wl g gl gb Ol E kg ms t rd seq ∧ BlkIn wl ⟨b2, chC kg, 61⟩ ∧ (∀ q, GB g gb Ol q ∨ E q → q ≠ b2) ∧ e = [(1, .slice A n c), (2, .pointer (some ⟨b2, 0, none⟩)), (5, .pointer (some ⟨g, 0, none⟩)), (6, .int .i64 R), (7, .int .i64 i)])
    _ _ ⟨0, 0, _, _, _, _, _, _, Nat.zero_le _, rfl, by simp, by simp, hS2.ext hwl.ext (fun q hq => by omega) (fun q hq h => hnb2 q hq h), hwl.has _ (.head _), hnb2, rfl⟩ ⟨rfl, rfl, rfl, rfl, rfl, trivial⟩ ?_
  clear hS2 hG2 hN2 hnb2
  rintro mm e w3 ⟨i, R, t, rd, seq, ms, Ol, E, hi, rfl, hR, hsq, hS3, hB3, hnb, rfl⟩ ih
  have st3 : ∀ {H' : List Blk} {w' : World}, Cls w3 (fun q => q = b2) H' w' → (⟨b2, chC kg, 61⟩ : Blk) ∈ H' → Ext No w3 w' := fun h h1 => h.still fun q hq => ⟨_, h1, hq.symm, hB3⟩
  refine J.at (C := Cls w3 (fun q => q = b2) [_]) ?_ (Cls.start1 hB3)
  repeat (first | (apply JL.y; (first | (apply Y_move; rfl) | (apply Y_len; rfl) | (apply Y_lss; rfl; rfl)); rfl) | refine J.seq ?_ | refine J.region ?_ | refine JL.nil ?_)
  refine J.cond_d rfl (fun hlt => ?_) (fun hlt => ?_)
  case refine_2 =>
    repeat (first | (apply JL.y; (apply Y_assign; rfl); rfl) | refine J.seq ?_ | refine J.region ?_ | refine JL.nil ?_ | (apply J.exit; rfl))
    exact J.ret1 Try.func8 Try.results8 (RV.tm rfl) fun w' hw' => ⟨rfl, hS3.x.trans (st3 hw' (by simp))⟩
  have hil : i < n := by omega
  obtain ⟨z, hx⟩ : ∃ z, steps[i]? = some z := ⟨_, List.getElem?_eq_getElem (by omega)⟩
  obtain ⟨ad, _, e1⟩ := hs.base (by omega) (by omega)
  simp only [Value.slice.injEq] at e1
  obtain ⟨rfl, _, _⟩ := e1
  have hs' : Rd 6 St12C W All (.slice (some ad) n c) steps := hs
  have l1 := ((hs'.lds (P := Try.prog) (t := 63) hx).ext0 hS3.x)
  obtain ⟨Aw, cw, hws, hwr⟩ := St12C.open_ (hs.el z (List.mem_of_getElem? hx))
  obtain ⟨zc, s⟩ := z
  simp only at hws hwr
  subst hws
  unfold maxLen at hma
  have hlt3 : ∀ q, GB g gb Ol q ∨ E q → q < w3.heap.size := fun q hq => hS3.lt hq
  have b2u3 := hB3.lt
  simp only at b2u3
  unfold chC at hB3 st3
  unfold chC
  repeat (first | (apply JL.y; (apply Y_move; rfl); rfl) | refine J.seq ?_ | refine J.region ?_ | refine J.skip ?_ | refine J.block ?_)
  apply JL.y (Y_indexAddr rfl rfl (by omega)) rfl
  apply JL.y (Y_loadP rfl fun w' hw' => l1.at_ (st3 hw' (by simp)) fun _ _ _ h => h) rfl
  unfold st12C
  repeat (first | (apply JL.y; (first | (apply Y_move; rfl) | (apply Y_fieldAddr; rfl; rfl) | (apply Y_load1 0; rfl; rfl; rfl; exact inferInstance)); rfl) | refine J.seq ?_ | refine J.region ?_ | refine JL.nil ?_ | (apply JL.alloc; rfl; rfl; intro _) | (apply JL.store; (apply St_W 0; rfl; rfl; rfl; exact inferInstance; rfl; rfl; (first | (focus (simp [Value.oneCell']; done)) | (simp [Value.oneCell']; assumption) | (simp [Value.oneCell']; exact ⟨by assumption, by assumption⟩)); (first | (focus (simp only [List.set_cons_zero]; done)) | (simp only [List.set_cons_zero]; rfl)))))
  rename_i b8
  have hr1 := tmod_in s.round 2 (by decide)
  obtain ⟨dr, hdr⟩ : ∃ x, x = (IntKind.u64.wrap s.round).tmod 2 := ⟨_, rfl⟩
  rw [← hdr] at hr1
  apply JL.y (Y_conv rfl) rfl
  apply JL.y (Y_rem rfl rfl (by decide)) rfl
  rw [← hdr]
  repeat (first | (apply JL.y; (first | (apply Y_assign; rfl) | (apply Y_fieldAddr; rfl; rfl) | (apply Y_load1 0; rfl; rfl; rfl; exact inferInstance) | (apply Y_add; rfl; rfl; omega) | (apply Y_convI; rfl; omega)); rfl) | refine J.seq ?_ | refine J.region ?_ | refine JL.nil ?_)
  have hl1 := tmod_in s.lane kg.lanes (by omega)
  obtain ⟨q1, hq1⟩ : ∃ x, x = (IntKind.u64.wrap s.lane).tmod kg.lanes := ⟨_, rfl⟩
  rw [← hq1] at hl1
  apply JL.y (Y_conv rfl) rfl
  repeat (first | (apply JL.y; (first | (apply Y_fieldAddr; rfl; rfl) | (apply Y_load1 1; rfl; rfl; rfl; exact inferInstance) | (apply Y_convU; rfl; omega)); rfl))
  apply JL.y (Y_rem rfl rfl (by omega)) rfl
  rw [← hq1]
  repeat (first | (apply JL.y; (first | (apply Y_move; rfl) | (apply Y_assign; rfl) | (apply Y_convI; rfl; omega)); rfl) | refine J.seq ?_ | refine J.region ?_ | refine JL.nil ?_)
  -- the count
  refine JL.call _ rfl rfl (fun w4 hw4 => gAll_spec (hS3.o.ext hw4.ext fun q hq h' => hnb q hq h')) fun w4 r w5 hw4 ⟨hE5, zs, hN5, hz5⟩ => ?_
  have hB8 := (hw4.ext0 hE5).has _ (.head _)
  have hB2 := (hw4.ext0 hE5).has _ (.tail _ (.head _))
  have b8l : w3.heap.size ≤ b8 := hw4.fresh fun q h => ⟨_, .head _, h.symm⟩
  have b8u := (hw4.has _ (.head _)).lt
  simp only at b8u
  have b28 : b2 ≠ b8 := by omega
  have hX5 : Ext No w3 w5 := (st3 hw4 (by simp)).trans hE5
  have hS5 := hS3.ext0 hX5
  have hnb8 : ∀ q, GB g gb Ol q ∨ E q → q ≠ b8 := fun q hq => by have := hlt3 q hq; omega
  have s35 := hX5.size
  have sW := hS3.x.size
  obtain ⟨Az, cz, hr, hcz, hmz⟩ := hN5.own.slice
  subst hr
  have hzl : zs.length ≤ 24 := by
    have h1 := congrArg List.length hz5
    rw [St.srt_len, List.length_map] at h1
    rw [h1]; exact hS3.o.l.len
  refine GL.of_JL (C := Cls w5 (fun q => q = b8 ∨ q = b2) [_, _]) (Cls.start2 hB8 hB2 b28) ?_
  repeat (first | (apply JL.y; (apply Y_assign; rfl); rfl) | refine J.seq ?_ | refine J.region ?_ | refine JL.nil ?_ | refine J.block ?_)
  refine J.intro fun wl hwl => G.loop (Inv := fun mm e wl => ∃ (j : Nat), j ≤ zs.length ∧ mm = zs.length - j ∧ Ext No w5 wl ∧ e = [(1, .slice (some ad) n c), (2, .pointer (some ⟨b2, 0, none⟩)), (5, .pointer (some ⟨g, 0, none⟩)), (6, .int .i64 (R + dr)), (7, .int .i64 i), (8, .pointer (some ⟨b8, 0, none⟩)), (9, .int .i64 q1), (10, .int .i64 (((zs.map (·.2)).take j).filter fun m => m.lane == q1).length), (11, .slice Az zs.length cz), (12, .int .i64 j)])
    _ _ ⟨0, Nat.zero_le _, rfl, hwl.still fun q hq => hq.elim (fun h => ⟨_, .head _, h.symm, hB8⟩) fun h => ⟨_, .tail _ (.head _), h.symm, hB2⟩, rfl⟩ ⟨rfl, rfl, rfl, rfl, rfl, rfl, rfl, rfl, rfl, rfl, trivial⟩ ?_
  rintro mm e w6 ⟨j, hj, rfl, hE56, rfl⟩ ih2
  have hB8' := hB8.ext0 hE56
  have hB2' := hB2.ext0 hE56
  have hS6 := hS5.ext0 hE56
  have hjl : (((zs.map (·.2)).take j).filter fun m => m.lane == q1).length ≤ 24 := by
    have := List.length_filter_le (fun m : Msg => m.lane == q1) ((zs.map (·.2)).take j)
    simp only [List.length_take, List.length_map] at this
    omega
  refine J.at (C := Cls w6 (fun q => q = b8 ∨ q = b2) [_, _]) ?_ (Cls.start2 hB8' hB2' b28)
  repeat (first | (apply JL.y; (first | (apply Y_move; rfl) | (apply Y_len; rfl) | (apply Y_lss; rfl; rfl)); rfl) | refine J.seq ?_ | refine J.region ?_ | refine JL.nil ?_)
  refine J.cond_d rfl (fun hlj => ?_) (fun hlj => ?_)
  · have hjl' : j < zs.length := by omega
    obtain ⟨y, hy⟩ : ∃ y, zs[j]? = some y := ⟨_, List.getElem?_eq_getElem hjl'⟩
    have hRd := hN5.reads.ext0 hE56
    obtain ⟨ad2, _, e2⟩ := hRd.base (by omega) (by omega)
    simp only [Value.slice.injEq] at e2
    obtain ⟨rfl, _, _⟩ := e2
    obtain ⟨wy, hwy, _, _, _⟩ := MsgC.open_ (hRd.el y (List.mem_of_getElem? hy))
    have l2 := Rd.ldsF (P := Try.prog) (t := 3) hRd hy (j := 1) (v := .int .i64 y.2.lane) (by rw [hwy]; rfl)
    have hsn : ((zs.map (·.2)).take (j + 1)).filter (fun m => m.lane == q1) = ((zs.map (·.2)).take j).filter (fun m => m.lane == q1) ++ if y.2.lane = q1 then [y.2] else [] := by
      rw [take_snoc (map_snoc hy), List.filter_append]
      congr 1
      by_cases hq : y.2.lane = q1 <;> simp [hq]
    have st6 : ∀ {H' : List Blk} {w' : World}, Cls w6 (fun q => q = b8 ∨ q = b2) H' w' → (⟨b8, st12C (.slice Aw s.ws.length cw) s, 63⟩ : Blk) ∈ H' → (⟨b2, chC kg, 61⟩ : Blk) ∈ H' → Ext No w6 w' := fun h h1 h2 => h.still fun q hq => hq.elim (fun h => ⟨_, h1, h.symm, hB8'⟩) fun h => ⟨_, h2, h.symm, hB2'⟩
    unfold st12C chC at st6
    unfold maxLen at hmz
    repeat (first | (apply JL.y; (apply Y_move; rfl); rfl) | refine J.seq ?_ | refine J.region ?_ | refine J.skip ?_ | refine J.block ?_)
    apply JL.y (Y_indexAddr rfl rfl (by omega)) rfl
    apply JL.y (Y_fieldAddrG rfl) rfl
    apply JL.y (Y_loadP rfl fun w' hw' => l2.at_ (st6 hw' (by simp) (by simp)) fun _ _ _ h => h) rfl
    repeat (first | (apply JL.y; (first | (apply Y_move; rfl) | (apply Y_eql; rfl; rfl)); rfl) | refine JL.nil ?_)
    refine J.cond_d rfl (fun hq => ?_) (fun hq => ?_)
    · rw [if_pos hq] at hsn
      repeat (first | (apply JL.y; (first | (apply Y_move; rfl) | (apply Y_assign; rfl) | (apply Y_add; rfl; rfl; omega)); rfl) | refine J.region ?_ | refine JL.nil ?_ | refine J.inBlock ?_)
      refine J.intro fun w7 hw7 => ih2 (zs.length - (j + 1)) (by omega) _ _ w7 ?_ ⟨j + 1, hjl', rfl, hE56.trans (st6 hw7 (by simp) (by simp)), rfl⟩
      exact ⟨rfl, rfl, rfl, rfl, rfl, rfl, rfl, by rw [hsn, List.length_append]; rfl, rfl, rfl, trivial⟩
    · rw [if_neg hq, List.append_nil] at hsn
      repeat (first | (apply JL.y; (first | (apply Y_move; rfl) | (apply Y_assign; rfl) | (apply Y_add; rfl; rfl; omega)); rfl) | refine J.region ?_ | refine JL.nil ?_ | refine J.skip ?_ | refine J.inBlock ?_)
      refine J.intro fun w7 hw7 => ih2 (zs.length - (j + 1)) (by omega) _ _ w7 ?_ ⟨j + 1, hjl', rfl, hE56.trans (st6 hw7 (by simp) (by simp)), rfl⟩
      exact ⟨rfl, rfl, rfl, rfl, rfl, rfl, rfl, by rw [hsn]; rfl, rfl, rfl, trivial⟩
  have hcnt : ((((zs.map (·.2)).take j).filter fun m => m.lane == q1).length : Int) = cnt ms q1 := by
    rw [List.take_of_length_le (by simp; omega), hz5, filt_srt]; rfl
  rw [hcnt]
  repeat (first | (apply JL.y; (first | (apply Y_move; rfl) | (apply Y_fieldAddr; rfl; rfl) | (apply Y_load1 1; rfl; rfl; rfl; exact inferInstance) | (apply Y_lss; rfl; rfl)); rfl) | refine J.seq ?_ | refine J.region ?_ | (apply J.exit; rfl))
  have hfew : cnt ms q1 ≤ kg.depth := by have := hS6.o.l.few q1; rw [cld] at this; exact this
  have hrm : room (cl 1 3 kg.lanes) (cl 1 8 kg.depth) ms q1 = kg.depth - cnt ms q1 := by rw [cln, cld, room, if_pos hl1]
  have hj0 : judge kg 0 q1 [(i : Int)] = 0 := judge_one g1 g2.1 hl1 (by omega)
  have hbi := hS6.o.bi
  have hb2l' : ∀ q, (q = b8 ∨ q = b2) → W.heap.size ≤ q := fun q h => by omega
  have hnbb : ∀ q, GB g gb Ol q ∨ E q → ¬ (q = b8 ∨ q = b2) := fun q hq h => h.elim (hnb8 q hq) (hnb q hq)
  by_cases hroom : cnt ms q1 < kg.depth
  · rw [decide_eq_true hroom]
    repeat (first | (apply JL.y; (apply Y_move; rfl); rfl) | (apply JL.guard_yes; rfl; rfl; rfl))
    refine JL.call _ rfl rfl (fun w7 hw7 => gTokens_spec (hS6.o.ext hw7.ext hnbb) (R + dr)) fun w7 r w8 hw7 ⟨hr, hE8, hG8⟩ => ?_
    subst hr
    have hS7 := hS6.ext hw7.ext hb2l' hnbb
    have hB8 := (hw7.has _ (.head _)).keep hE8 fun h => hnb8 gb (.inl (.inr (.inl rfl))) h.symm
    have hB2 := (hw7.has _ (.tail _ (.head _))).keep hE8 fun h => hnb gb (.inl (.inr (.inl rfl))) h.symm
    have hS8 : GSt W w8 g gl gb Ol E kg ms (bTok (cl 0 64 kg.rate) (cl 1 64 kg.cap) t rd (R + dr)) (bRnd rd (R + dr)) seq := ⟨hG8, hS7.x.then hE8 fun q h1 h2 => by have := hS7.new q (.inl (.inr (.inl h2))); omega, hS7.new⟩
    have htk := hbi.tok (R + dr)
    obtain ⟨b13, hb13⟩ : ∃ b, b = decide (0 < bTok (cl 0 64 kg.rate) (cl 1 64 kg.cap) t rd (R + dr)) := ⟨_, rfl⟩
    obtain ⟨t8, ht8⟩ : ∃ x, x = bTok (cl 0 64 kg.rate) (cl 1 64 kg.cap) t rd (R + dr) := ⟨_, rfl⟩
    obtain ⟨rd8, hrd8⟩ : ∃ x, x = bRnd rd (R + dr) := ⟨_, rfl⟩
    have hoe : (offR kg ms t8 rd8 seq 0 q1 [(i : Int)] s.n (R + dr)).e = (if b13 = true then 0 else 2) ∧ (0 ≤ (offR kg ms t8 rd8 seq 0 q1 [(i : Int)] s.n (R + dr)).seq ∧ (offR kg ms t8 rd8 seq 0 q1 [(i : Int)] s.n (R + dr)).seq ≤ i + 1) := by
      have h1 : bTok (cl 0 64 kg.rate) (cl 1 64 kg.cap) t8 rd8 (R + dr) = t8 := by rw [ht8, hrd8]; exact tok_again _ _ _ _ _ hbi
      rw [offR, if_neg (by rw [hj0]; simp), if_neg (by rw [hrm]; omega), h1, hb13, ← ht8]
      rw [← ht8] at htk
      by_cases h0 : t8 = 0
      · rw [if_pos h0, h0]; exact ⟨rfl, by simp only; omega⟩
      · rw [if_neg h0, decide_eq_true (by omega)]; exact ⟨rfl, by simp only; omega⟩
    rw [← ht8, ← hrd8] at hS8
    refine GL.of_JL (C := Cls w8 (fun q => q = b8 ∨ q = b2) [_, _]) (Cls.start2 hB8 hB2 b28) ?_
    apply JL.guard_yes rfl rfl rfl
    apply JL.y (Y_gtr rfl rfl) rfl
    rw [← ht8] at hb13
    rw [← ht8, ← hb13]
    repeat (first | (apply JL.y; (first | (apply Y_move; rfl) | (apply Y_assign; rfl) | (apply Y_fieldAddr; rfl; rfl) | (apply Y_load1 1; rfl; rfl; rfl; exact inferInstance) | (apply Y_pick_t; rfl; rfl)); rfl) | refine J.seq ?_ | refine J.region ?_ | refine JL.nil ?_ | (apply JL.bslice1; rfl; rfl; rfl; rfl; rfl; rfl; intro _))
    rename_i bi
    refine JL.call _ rfl rfl (fun w9 hw9 => gOffer_spec (hS8.o.ext hw9.ext hnbb) (by omega) (RInts.of_blk (hw9.has _ (.head _))) (fun q h1 h2 => by
      have := hS8.lt (.inl h2)
      have : w8.heap.size ≤ bi := hw9.fresh fun q h => h.elim (fun h => ⟨_, .head _, h.symm⟩) fun h => ⟨_, .tail _ (.head _), h.symm⟩
      omega) (by simp) 0 q1 s.n (R + dr)) fun w9 r w10 hw9 ⟨vm, hr, hE10, M, O1, E1, hF, hM, hG10, hO1, hE1⟩ => ?_
    subst hr
    have hS9 := hS8.ext hw9.ext hb2l' hnbb
    obtain ⟨O2, E2, hS10, hkey⟩ := hS9.to ⟨hE10, O1, E1, hG10, hO1, hE1⟩
    have b89 := (hw9.has _ (.tail _ (.head _))).lt
    have b29 := (hw9.has _ (.tail _ (.tail _ (.head _)))).lt
    have hC8 := (hw9.has _ (.tail _ (.head _))).keep hE10 fun h => hnb8 _ (.inl h) rfl
    have hC2 := (hw9.has _ (.tail _ (.tail _ (.head _)))).keep hE10 fun h => hnb _ (.inl h) rfl
    simp only at b89 b29
    have hnb10 : ∀ q, GB g gb O2 q ∨ E2 q → ¬ (q = b8 ∨ q = b2) := fun q hq h => (hkey q hq).elim (fun h1 => hnbb q h1 h) fun h1 => by omega
    obtain ⟨wsm, rfl, hFw, _, how⟩ := RMsg.open_ hF
    obtain ⟨he, hsq'⟩ := hoe
    clear hkey hF hFw hG10 hS9 hM hO1 hE1
    refine GL.of_JL (C := Cls w10 (fun q => q = b8 ∨ q = b2) [_, _]) (Cls.start2 hC8 hC2 b28) ?_
    unfold msgC
    rcases b13 with _ | _
    · rw [he.trans (if_neg (by decide))]
      repeat (first | (apply JL.y; (first | (apply Y_move; rfl) | (apply Y_assign; rfl) | (apply Y_extract; rfl; rfl) | (apply Y_eql; rfl; rfl)); rfl) | refine J.seq ?_ | refine J.region ?_ | refine JL.nil ?_ | (apply JL.alloc; rfl; rfl; intro _) | (apply JL.store; (apply St_W 0; rfl; rfl; rfl; exact inferInstance; rfl; rfl; (first | (focus (simp [Value.oneCell']; done)) | (simp [Value.oneCell']; assumption) | (simp [Value.oneCell']; exact ⟨by assumption, by assumption⟩)); (first | (focus (simp only [List.set_cons_zero]; done)) | (simp only [List.set_cons_zero]; rfl)))))
      apply JL.y (Y_neqB Try.underlying4 rfl rfl) rfl
      repeat (first | (apply JL.y; (first | (apply Y_move; rfl) | (apply Y_loadW 1; rfl; rfl; exact inferInstance; rfl) | (apply Y_neq; rfl; rfl) | (apply Y_gtr; rfl; rfl) | (apply Y_not; rfl) | (apply Y_pick_t; rfl; rfl) | (apply Y_pick_f; rfl; rfl)); rfl) | refine J.seq ?_ | refine J.region ?_ | refine JL.nil ?_ | (apply JL.callq; rfl; rfl; (intro wc hwc; first | exact kind12_spec (.slice Aw s.ws.length cw) s _)) | (apply JL.guard_yes; rfl; rfl; rfl) | refine J.skip ?_ | refine J.cond_f rfl ?_)
      refine J.cond_d rfl (fun hk => ?_) (fun hk => ?_)
      · repeat (first | (apply JL.y; (apply Y_move; rfl); rfl) | refine J.region ?_)
        refine JL.call _ rfl rfl (fun w11 hw11 => gTake_spec (hS10.o.ext hw11.ext hnb10)) fun w11 r w12 hw11 ⟨v, hr, hF, hT⟩ => ?_
        subst hr
        have hS11 := hS10.ext hw11.ext hb2l' hnb10
        have hT' := hS11.o.lane hT
        obtain ⟨O3, E3, hS12, hkey3⟩ := hS11.to hT'
        have b211 := (hw11.has _ (.tail _ (.tail _ (.head _)))).lt
        simp only at b211
        have hD2 := (hw11.has _ (.tail _ (.tail _ (.head _)))).keep hT'.1 fun h => hnb10 _ (.inl h) (.inr rfl)
        have hnb12 : ∀ q, GB g gb O3 q ∨ E3 q → ¬ q = b2 := fun q hq h => (hkey3 q hq).elim (fun h1 => hnb10 q h1 (.inr h)) fun h1 => by omega
        refine GL.of_JL (C := Cls w12 (fun q => q = b2) [_]) (Cls.start1 hD2) ?_
        repeat (first | (apply JL.y; (first | (apply Y_move; rfl) | (apply Y_assign; rfl) | (apply Y_add; rfl; rfl; omega)); rfl) | refine J.region ?_ | refine JL.nil ?_ | refine J.inBlock ?_)
        refine J.intro fun wl hwl => ih (n - (i + 1)) (by omega) _ _ wl ?_ ⟨i + 1, R + dr, _, _, _, _, _, _, by omega, rfl, by omega, by omega, hS12.ext hwl.ext (fun q hq => by omega) hnb12, hwl.has _ (.head _), hnb12, rfl⟩
        exact ⟨rfl, rfl, rfl, rfl, rfl, trivial⟩
      · repeat (first | (apply JL.y; (first | (apply Y_move; rfl) | (apply Y_assign; rfl) | (apply Y_add; rfl; rfl; omega)); rfl) | refine J.region ?_ | refine JL.nil ?_ | refine J.skip ?_ | refine J.inBlock ?_)
        refine J.intro fun wl hwl => ih (n - (i + 1)) (by omega) _ _ wl ?_ ⟨i + 1, R + dr, _, _, _, _, _, _, by omega, rfl, by omega, by omega, hS10.ext hwl.ext hb2l' hnb10, hwl.has _ (.tail _ (.tail _ (.head _))), fun q hq h => hnb10 q hq (.inr h), rfl⟩
        exact ⟨rfl, rfl, rfl, rfl, rfl, trivial⟩
    · rw [he.trans (if_pos rfl)]
      repeat (first | (apply JL.y; (first | (apply Y_move; rfl) | (apply Y_assign; rfl) | (apply Y_extract; rfl; rfl) | (apply Y_eql; rfl; rfl)); rfl) | refine J.seq ?_ | refine J.region ?_ | refine JL.nil ?_ | (apply JL.alloc; rfl; rfl; intro _) | (apply JL.store; (apply St_W 0; rfl; rfl; rfl; exact inferInstance; rfl; rfl; (first | (focus (simp [Value.oneCell']; done)) | (simp [Value.oneCell']; assumption) | (simp [Value.oneCell']; exact ⟨by assumption, by assumption⟩)); (first | (focus (simp only [List.set_cons_zero]; done)) | (simp only [List.set_cons_zero]; rfl)))))
      apply JL.y (Y_neqB Try.underlying4 rfl rfl) rfl
      repeat (first | (apply JL.y; (first | (apply Y_move; rfl) | (apply Y_loadW 1; rfl; rfl; exact inferInstance; rfl) | (apply Y_gtr; rfl; rfl) | (apply Y_not; rfl) | (apply Y_pick_f; rfl; rfl)); rfl) | refine J.seq ?_ | refine J.region ?_ | refine JL.nil ?_ | (apply JL.callq; rfl; rfl; (intro wc hwc; first | exact kind12_spec (.slice Aw s.ws.length cw) s _)) | (apply JL.guard_yes; rfl; rfl; rfl) | (apply JL.guard_no; rfl; rfl; rfl; rfl; rfl) | refine J.skip ?_ | refine J.cond_f rfl ?_)
      refine J.cond_d rfl (fun hk => ?_) (fun hk => ?_)
      · repeat (first | (apply JL.y; (apply Y_move; rfl); rfl) | refine J.region ?_)
        refine JL.call _ rfl rfl (fun w11 hw11 => gTake_spec (hS10.o.ext hw11.ext hnb10)) fun w11 r w12 hw11 ⟨v, hr, hF, hT⟩ => ?_
        subst hr
        have hS11 := hS10.ext hw11.ext hb2l' hnb10
        have hT' := hS11.o.lane hT
        obtain ⟨O3, E3, hS12, hkey3⟩ := hS11.to hT'
        have b211 := (hw11.has _ (.tail _ (.tail _ (.head _)))).lt
        simp only at b211
        have hD2 := (hw11.has _ (.tail _ (.tail _ (.head _)))).keep hT'.1 fun h => hnb10 _ (.inl h) (.inr rfl)
        have hnb12 : ∀ q, GB g gb O3 q ∨ E3 q → ¬ q = b2 := fun q hq h => (hkey3 q hq).elim (fun h1 => hnb10 q h1 (.inr h)) fun h1 => by omega
        refine GL.of_JL (C := Cls w12 (fun q => q = b2) [_]) (Cls.start1 hD2) ?_
        repeat (first | (apply JL.y; (first | (apply Y_move; rfl) | (apply Y_assign; rfl) | (apply Y_add; rfl; rfl; omega)); rfl) | refine J.region ?_ | refine JL.nil ?_ | refine J.inBlock ?_)
        refine J.intro fun wl hwl => ih (n - (i + 1)) (by omega) _ _ wl ?_ ⟨i + 1, R + dr, _, _, _, _, _, _, by omega, rfl, by omega, by omega, hS12.ext hwl.ext (fun q hq => by omega) hnb12, hwl.has _ (.head _), hnb12, rfl⟩
        exact ⟨rfl, rfl, rfl, rfl, rfl, trivial⟩
      · repeat (first | (apply JL.y; (first | (apply Y_move; rfl) | (apply Y_assign; rfl) | (apply Y_add; rfl; rfl; omega)); rfl) | refine J.region ?_ | refine JL.nil ?_ | refine J.skip ?_ | refine J.inBlock ?_)
        refine J.intro fun wl hwl => ih (n - (i + 1)) (by omega) _ _ wl ?_ ⟨i + 1, R + dr, _, _, _, _, _, _, by omega, rfl, by omega, by omega, hS10.ext hwl.ext hb2l' hnb10, hwl.has _ (.tail _ (.tail _ (.head _))), fun q hq h => hnb10 q hq (.inr h), rfl⟩
        exact ⟨rfl, rfl, rfl, rfl, rfl, trivial⟩
  · rw [decide_eq_false hroom]
    have hoe : (offR kg ms t rd seq 0 q1 [(i : Int)] s.n (R + dr)).e = 2 ∧ (0 ≤ (offR kg ms t rd seq 0 q1 [(i : Int)] s.n (R + dr)).seq ∧ (offR kg ms t rd seq 0 q1 [(i : Int)] s.n (R + dr)).seq ≤ i + 1) := by
      rw [offR, if_neg (by rw [hj0]; simp), if_pos (by rw [hrm]; omega)]; exact ⟨rfl, by simp only; omega⟩
    apply JL.guard_no
    rfl
    rfl
    rfl
    rfl
    rfl
    repeat (first | (apply JL.y; (first | (apply Y_move; rfl) | (apply Y_assign; rfl) | (apply Y_fieldAddr; rfl; rfl) | (apply Y_load1 1; rfl; rfl; rfl; exact inferInstance) | (apply Y_pick_f; rfl; rfl)); rfl) | refine J.seq ?_ | refine J.region ?_ | refine JL.nil ?_ | (apply JL.bslice1; rfl; rfl; rfl; rfl; rfl; rfl; intro _) | (apply JL.guard_no; rfl; rfl; rfl; rfl; rfl))
    rename_i bi
    refine JL.call _ rfl rfl (fun w9 hw9 => gOffer_spec (hS6.o.ext hw9.ext hnbb) (by omega) (RInts.of_blk (hw9.has _ (.head _))) (fun q h1 h2 => by
      have := hS6.lt (.inl h2)
      have : w6.heap.size ≤ bi := hw9.fresh fun q h => h.elim (fun h => ⟨_, .head _, h.symm⟩) fun h => ⟨_, .tail _ (.head _), h.symm⟩
      omega) (by simp) 0 q1 s.n (R + dr)) fun w9 r w10 hw9 ⟨vm, hr, hE10, M, O1, E1, hF, hM, hG10, hO1, hE1⟩ => ?_
    subst hr
    have hS9 := hS6.ext hw9.ext hb2l' hnbb
    obtain ⟨O2, E2, hS10, hkey⟩ := hS9.to ⟨hE10, O1, E1, hG10, hO1, hE1⟩
    have b89 := (hw9.has _ (.tail _ (.head _))).lt
    have b29 := (hw9.has _ (.tail _ (.tail _ (.head _)))).lt
    have hC8 := (hw9.has _ (.tail _ (.head _))).keep hE10 fun h => hnb8 _ (.inl h) rfl
    have hC2 := (hw9.has _ (.tail _ (.tail _ (.head _)))).keep hE10 fun h => hnb _ (.inl h) rfl
    simp only at b89 b29
    have hnb10 : ∀ q, GB g gb O2 q ∨ E2 q → ¬ (q = b8 ∨ q = b2) := fun q hq h => (hkey q hq).elim (fun h1 => hnbb q h1 h) fun h1 => by omega
    obtain ⟨wsm, rfl, hFw, _, how⟩ := RMsg.open_ hF
    obtain ⟨he, hsq'⟩ := hoe
    clear hkey hF hFw hG10 hS9 hM hO1 hE1
    refine GL.of_JL (C := Cls w10 (fun q => q = b8 ∨ q = b2) [_, _]) (Cls.start2 hC8 hC2 b28) ?_
    unfold msgC
    rw [he]
    repeat (first | (apply JL.y; (first | (apply Y_move; rfl) | (apply Y_assign; rfl) | (apply Y_extract; rfl; rfl) | (apply Y_eql; rfl; rfl)); rfl) | refine J.seq ?_ | refine J.region ?_ | refine JL.nil ?_ | (apply JL.alloc; rfl; rfl; intro _) | (apply JL.store; (apply St_W 0; rfl; rfl; rfl; exact inferInstance; rfl; rfl; (first | (focus (simp [Value.oneCell']; done)) | (simp [Value.oneCell']; assumption) | (simp [Value.oneCell']; exact ⟨by assumption, by assumption⟩)); (first | (focus (simp only [List.set_cons_zero]; done)) | (simp only [List.set_cons_zero]; rfl)))))
    apply JL.y (Y_neqB Try.underlying4 rfl rfl) rfl
    repeat (first | (apply JL.y; (first | (apply Y_move; rfl) | (apply Y_loadW 1; rfl; rfl; exact inferInstance; rfl) | (apply Y_neq; rfl; rfl) | (apply Y_gtr; rfl; rfl) | (apply Y_not; rfl) | (apply Y_pick_t; rfl; rfl) | (apply Y_pick_f; rfl; rfl)); rfl) | refine J.seq ?_ | refine J.region ?_ | refine JL.nil ?_ | (apply JL.callq; rfl; rfl; (intro wc hwc; first | exact kind12_spec (.slice Aw s.ws.length cw) s _)) | (apply JL.guard_yes; rfl; rfl; rfl) | refine J.skip ?_ | refine J.cond_f rfl ?_)
    refine J.cond_d rfl (fun hk => ?_) (fun hk => ?_)
    · repeat (first | (apply JL.y; (apply Y_move; rfl); rfl) | refine J.region ?_)
      refine JL.call _ rfl rfl (fun w11 hw11 => gTake_spec (hS10.o.ext hw11.ext hnb10)) fun w11 r w12 hw11 ⟨v, hr, hF, hT⟩ => ?_
      subst hr
      have hS11 := hS10.ext hw11.ext hb2l' hnb10
      have hT' := hS11.o.lane hT
      obtain ⟨O3, E3, hS12, hkey3⟩ := hS11.to hT'
      have b211 := (hw11.has _ (.tail _ (.tail _ (.head _)))).lt
      simp only at b211
      have hD2 := (hw11.has _ (.tail _ (.tail _ (.head _)))).keep hT'.1 fun h => hnb10 _ (.inl h) (.inr rfl)
      have hnb12 : ∀ q, GB g gb O3 q ∨ E3 q → ¬ q = b2 := fun q hq h => (hkey3 q hq).elim (fun h1 => hnb10 q h1 (.inr h)) fun h1 => by omega
      refine GL.of_JL (C := Cls w12 (fun q => q = b2) [_]) (Cls.start1 hD2) ?_
      repeat (first | (apply JL.y; (first | (apply Y_move; rfl) | (apply Y_assign; rfl) | (apply Y_add; rfl; rfl; omega)); rfl) | refine J.region ?_ | refine JL.nil ?_ | refine J.inBlock ?_)
      refine J.intro fun wl hwl => ih (n - (i + 1)) (by omega) _ _ wl ?_ ⟨i + 1, R + dr, _, _, _, _, _, _, by omega, rfl, by omega, by omega, hS12.ext hwl.ext (fun q hq => by omega) hnb12, hwl.has _ (.head _), hnb12, rfl⟩
      exact ⟨rfl, rfl, rfl, rfl, rfl, trivial⟩
    · repeat (first | (apply JL.y; (first | (apply Y_move; rfl) | (apply Y_assign; rfl) | (apply Y_add; rfl; rfl; omega)); rfl) | refine J.region ?_ | refine JL.nil ?_ | refine J.skip ?_ | refine J.inBlock ?_)
      refine J.intro fun wl hwl => ih (n - (i + 1)) (by omega) _ _ wl ?_ ⟨i + 1, R + dr, _, _, _, _, _, _, by omega, rfl, by omega, by omega, hS10.ext hwl.ext hb2l' hnb10, hwl.has _ (.tail _ (.tail _ (.head _))), fun q hq h => hnb10 q hq (.inr h), rfl⟩
      exact ⟨rfl, rfl, rfl, rfl, rfl, trivial⟩
end Go.Proofs.Ytmkpbbdocndfbaa
