/-
  Signatures: whether they are right: the program's word is the document's.
  Conditions: none.
-/
import Derived.Test.YtnfbagkeenjifaaGreatDoorChk
import Derived.Test.YtnfbagkeenjifaaGreatDoorWts3
import Derived.Test.YtnfbagkeenjifaaGreatDoorPPx3
namespace Go.Proofs.YtnfbagkeenjifaaGreatDoor.Oct.Evt
open Go.RowKit Go.Proofs.YtnfbagkeenjifaaGreatDoor.PP Go.Proofs.YtnfbagkeenjifaaGreatDoorW.PrintWords Go.Proofs.YtnfbagkeenjifaaGreatDoorW.PrintLast Go.Proofs.YtnfbagkeenjifaaGreatDoorW.PrintMore
open Go.Proofs.YtnfbagkeenjifaaGreatDoor.Sha (ifs ifn)
set_option linter.unusedSimpArgs false
set_option linter.unusedVariables false

theorem ch_mem : ∀ (d : Nat) (x : ByteArray), ∀ y ∈ ch d x, y.size ≤ 300
  | 0, _, y, h => by cases h
  | d + 1, x, y, h => by
    rcases List.mem_cons.1 h with rfl | h
    · simp; omega
    · exact ch_mem d _ y h
theorem parts5_ok {s : ByteArray} {leaf : Int} {vs ps : List ByteArray} (h : parts5 s = (leaf, vs, ps, true)) :
    ∃ n : Nat, n ≤ 4 ∧ vs.length = 67 ∧ ps.length = n ∧ (∀ x ∈ vs, x.size ≤ 300) ∧ (∀ x ∈ ps, x.size ≤ 300) ∧ leaf < 2 ^ n ∧ leaf = bv 0 (bytesOf (s.extract 0 2)) ∧ 2 ≤ s.size := by
  unfold parts5 at h
  cases e : hgt s.size with
  | none => rw [e] at h; simp [noPrt] at h
  | some n =>
    rw [e] at h
    simp only at h
    unfold hgt at e
    split at e
    · rename_i hc
      have en := Option.some.inj e
      by_cases c : bv 0 (bytesOf (s.extract 0 2)) ≥ 2 ^ n
      · rw [prt_no c] at h
        simp [noPrt] at h
      · rw [prt_yes c] at h
        simp only [Prod.mk.injEq, and_true] at h
        obtain ⟨h1, h2, h3⟩ := h
        have hl := ch_len (67 + n) (s.extract 2 s.size)
        refine ⟨n, by omega, by rw [← h2, List.length_take, hl]; omega, by rw [← h3, List.length_drop, hl]; omega, fun x hx => ?_, fun x hx => ?_, by rw [← h1]; omega, h1.symm, by omega⟩
        · rw [← h2] at hx
          exact ch_mem _ _ x (List.mem_of_mem_take hx)
        · rw [← h3] at hx
          exact ch_mem _ _ x (List.mem_of_mem_drop hx)
    · cases e
theorem two_nonneg (s : ByteArray) : 0 ≤ bv 0 (bytesOf (s.extract 0 2)) := by
  have hm := bytesOf_mem (s.extract 0 2)
  have : ∀ (l : List Int) (x : Int), (∀ c ∈ l, 0 ≤ c ∧ c < 256) → 0 ≤ x → 0 ≤ bv x l := by
    intro l
    induction l with
    | nil => intro x _ hx; exact hx
    | cons a l ih =>
      intro x hc hx
      have := hc a (by simp)
      exact ih (x * 256 + a) (fun c h => hc c (List.mem_cons_of_mem _ h)) (by omega)
  exact this _ 0 hm (by omega)
theorem one_mem (c : ByteArray) (hc : c.size ≤ 2000) : ∀ x ∈ [c], x.size ≤ 2000 := by
  intro x hx
  simp at hx
  rw [hx]
  exact hc
theorem Rd_len5 : ∀ (l : List ByteArray) (i : Int) (x : ByteArray), (Sha.Rd l i x).length = l.length
  | [], _, _ => rfl
  | p :: l, i, x => by simp [Sha.Rd, Rd_len5 l]
theorem Fo_size : ∀ (l : List ByteArray) (i : Int) (x : ByteArray), x.size ≤ 300 → (Sha.Fo l i x).size ≤ 300
  | [], _, x, h => h
  | p :: l, i, x, h => Fo_size l _ _ (by rw [show (Sha.tg (Sha.pr i x p)).size = 32 from Sha.dig_size _]; decide)
theorem pair_mem (x y : ByteArray) (hx : x.size ≤ 2000) (hy : y.size ≤ 2000) : ∀ s ∈ [x, y], s.size ≤ 2000 := by
  intro s h
  rcases List.mem_cons.1 h with rfl | h
  · exact hx
  · simp at h
    rw [h]
    exact hy
theorem named_ev (n : Nat) (hn : n ≤ 4) (x : ByteArray) (hx : x.size ≤ 300) : Sha.Ev (fun k => key_named.f k (n : Int) x) (Sha.tT 5 [Sha.one n, x]) := by
  unfold key_named.f
  exact Sha.Ev.bind (Sha.one_ev n (by omega)) (Sha.Ev.bind (Sha.tagT 5 _ (pair_mem _ _ (by rw [Sha.one_size]; decide) (by omega)) (by simp)) (Sha.Ev.pure _))
theorem rnamed_ev (n : Nat) (hn : n ≤ 4) (x : ByteArray) (hx : x.size ≤ 300) : Sha.Ev (fun k => palaverref05_Named.f k (n : Int) x) (Sha.tT 5 [Sha.one n, x]) := by
  unfold palaverref05_Named.f
  exact Sha.Ev.bind (Sha.rone_ev n (by omega)) (Sha.Ev.bind (Sha.rtagT 5 (by decide) _ (pair_mem _ _ (by rw [Sha.one_size]; decide) (by omega)) (by simp)) (Sha.Ev.pure _))
/-- The two words on a signature are one. -/
theorem verify_same (a c s : ByteArray) (hc : c.size ≤ 2000) (hs : s.size ≤ 100000) : ∃ (b : Bool) (r : List ByteArray), Sha.Ev (fun k => key_Verify.f k a c s) b ∧ Sha.Ev (fun k => palaverref05_Verify.f k a c s) (b, r) := by
  have h1 := kp_ev s hs
  have h2 := rp_ev s hs
  rcases e : parts5 s with ⟨leaf, vs, ps, ok⟩
  rw [e] at h1 h2
  cases ok with
  | false =>
    refine ⟨false, [], ?_, ?_⟩
    · unfold key_Verify.f
      exact Sha.Ev.bind h1 (ifn Bool.false_ne_true (Sha.Ev.pure _))
    · unfold palaverref05_Verify.f
      exact Sha.Ev.bind h2 (ifn Bool.false_ne_true (Sha.Ev.pure _))
  | true =>
    obtain ⟨n, hn, hv, hp, mv, mp, hl, hl2, h2s⟩ := parts5_ok e
    have hl0 : 0 ≤ leaf := by rw [hl2]; exact two_nonneg s
    have hd : (Sha.tT 6 [c]).size = 32 := Sha.tT_size _ _
    have hr : (Sha.rc (Sha.Dg (Sha.tT 6 [c])) vs).size = 32 := Sha.tT_size _ _
    have fc : ps.length ≤ 4 ∧ 0 ≤ leaf ∧ leaf < 2 ^ ps.length := ⟨by omega, hl0, by rw [hp]; exact hl⟩
    have tg := Sha.tagT 6 [c] (one_mem c hc) (by simp)
    have rtg := Sha.rtagT 6 (by decide) [c] (one_mem c hc) (by simp)
    have rv := Sha.recover_ev (Sha.tT 6 [c]) vs (fun _ => mv)
    rw [if_pos ⟨hd, hv⟩] at rv
    have rrv := Sha.rrecover_ev (Sha.tT 6 [c]) hd vs mv hv
    have fo := Sha.fold_ev (Sha.rc (Sha.Dg (Sha.tT 6 [c])) vs) (by omega) leaf ps (fun _ => mp)
    have rfo := Sha.rfold_ev (Sha.rc (Sha.Dg (Sha.tT 6 [c])) vs) (by omega) leaf ps (fun _ => mp)
    unfold Sha.fold at fo
    rw [if_pos fc] at fo
    unfold Sha.rfold at rfo
    rw [if_pos fc] at rfo
    have hf := Fo_size ps leaf (Sha.rc (Sha.Dg (Sha.tT 6 [c])) vs) (by omega)
    have rl : (Sha.Ro (Sha.Dg (Sha.tT 6 [c])) vs 67 0 ++ [Sha.inT 3 (Sha.tab (Sha.en (Sha.Dg (Sha.tT 6 [c])) vs) 67)]).length ≤ 2000 := by
      have := Sha.Ro_len (Sha.Dg (Sha.tT 6 [c])) vs 67 0
      simp
      omega
    have dl : (Sha.Rd ps leaf (Sha.rc (Sha.Dg (Sha.tT 6 [c])) vs)).length = ps.length := Rd_len5 ps leaf _
    generalize Sha.rc (Sha.Dg (Sha.tT 6 [c])) vs = x at *
    generalize (Sha.Ro (Sha.Dg (Sha.tT 6 [c])) vs 67 0 ++ [Sha.inT 3 (Sha.tab (Sha.en (Sha.Dg (Sha.tT 6 [c])) vs) 67)]) = road at *
    generalize Sha.Fo ps leaf x = y at *
    generalize Sha.Rd ps leaf x = more at *
    have na := named_ev ps.length (by omega) y hf
    have rna := rnamed_ev ps.length (by omega) y hf
    have rno := Sha.rone_ev ps.length (by omega)
    have i5 := Sha.rinput_small 5 (by decide) [Sha.one ps.length, y] (pair_mem _ _ (by rw [Sha.one_size]; decide) (by omega)) (by simp)
    have i6 := Sha.rinput_small 6 (by decide) [c] (one_mem c hc) (by simp)
    generalize (⟨([sha_Input.u8 5] ++ Sha.cat [Sha.one ps.length, y]).toArray⟩ : ByteArray) = u5 at *
    generalize (⟨([sha_Input.u8 6] ++ Sha.cat [c]).toArray⟩ : ByteArray) = u6 at *
    refine ⟨((Sha.tT 5 [Sha.one ps.length, y]).toList == a.toList), (road ++ more) ++ [u5, u6], ?_, ?_⟩
    · unfold key_Verify.f
      exact Sha.Ev.bind h1 (ifs rfl (Sha.Ev.bind tg (Sha.Ev.bind rv (Sha.Ev.bind fo (Sha.Ev.bind na (Sha.Ev.pure _))))))
    · unfold palaverref05_Verify.f
      refine Sha.Ev.bind h2 (ifs rfl (Sha.Ev.bind rtg (Sha.Ev.bind rrv (Sha.Ev.bind rfo (Sha.Ev.bind rno ?_)))))
      refine ifs (by show road.length + more.length < 8796093022208; omega) ?_
      refine Sha.Ev.bind (v := road ++ more) (Sha.Ev.pure _) (Sha.Ev.bind i5 (Sha.Ev.bind i6 (Sha.Ev.bind (v := [u5, u6]) (Sha.Ev.pure _) (ifs (by show (road ++ more).length + 2 < 8796093022208; rw [List.length_append]; omega) (Sha.Ev.bind rna (Sha.Ev.pure _))))))
end Go.Proofs.YtnfbagkeenjifaaGreatDoor.Oct.Evt
