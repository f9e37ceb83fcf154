/-
  A signature's parts are those of which it was made.
-/
import Derived.Test.YtdodghifojkclaaGreatDoorKeyR
import Derived.Test.YtdodghifojkclaaGreatDoorChk
import Derived.Test.YtdodghifojkclaaGreatDoorPPx3
namespace Go.Proofs.YtdodghifojkclaaGreatDoor.KeyO
open Go.RowKit Go.Proofs.YtdodghifojkclaaGreatDoor.PP Go.Proofs.YtdodghifojkclaaGreatDoorW.PrintWords Go.Proofs.YtdodghifojkclaaGreatDoorW.PrintLast Go.Proofs.YtdodghifojkclaaGreatDoorW.PrintMore
set_option linter.unusedVariables false
set_option linter.unusedSimpArgs false
open Go.Proofs.YtdodghifojkclaaGreatDoor.Sha (ifs ifn)

theorem ext_two (a b : ByteArray) : (a ++ b).extract 0 a.size = a ∧ (a ++ b).extract a.size (a ++ b).size = b := by
  have h1 := Oct.take_ok (a ++ b) (a.size : Int) (by omega) (by rw [ByteArray.size_append]; omega)
  rw [Oct.take_app a b _ rfl, Int.toNat_natCast] at h1
  simp only [Prod.mk.injEq, and_true] at h1
  exact ⟨h1.1.symm, h1.2.symm⟩
theorem catS_app : ∀ (a b : List ByteArray), Jn.catS (a ++ b) = Jn.catS a ++ Jn.catS b
  | [], b => by
    rw [List.nil_append, catS_nil]
    apply ByteArray.ext
    rw [ByteArray.data_append]
    simp
  | x :: a, b => by rw [List.cons_append, catS_cons, catS_cons, catS_app a b, ByteArray.append_assoc]
theorem ch_cat : ∀ (l : List ByteArray), (∀ x ∈ l, x.size = 32) → Oct.Evt.ch l.length (Jn.catS l) = l
  | [], _ => rfl
  | x :: l, h => by
    have hx := h x (List.mem_cons_self ..)
    have h2 := ext_two x (Jn.catS l)
    rw [hx] at h2
    rw [List.length_cons, catS_cons]
    show (x ++ Jn.catS l).extract 0 32 :: Oct.Evt.ch l.length ((x ++ Jn.catS l).extract 32 (x ++ Jn.catS l).size) = _
    rw [h2.1, h2.2, ch_cat l (fun y hy => h y (List.mem_cons_of_mem _ hy))]
theorem Rt32 (h : Nat) (l : List ByteArray) (hl : l.length = 2 ^ h) (hs : ∀ s ∈ l, s.size = 32) : (Sha.Rt h l).size = 32 := by
  cases h with
  | zero =>
    have hj : 0 < l.length := by rw [hl]; decide
    have e : Sha.Rt 0 l = l[0] := Sha.at_get l 0 hj
    rw [e]
    exact hs _ (List.getElem_mem hj)
  | succ h =>
    rw [Sha.Rt_one]
    unfold Sha.tg
    rw [Sha.dig_size]
theorem Pt32 (l : List ByteArray) (h : Nat) (hl : l.length = 2 ^ h) (hs : ∀ s ∈ l, s.size = 32) (i : Nat) (hi : i < 2 ^ h) : ∀ (d t : Nat), t + d = h → ∀ s ∈ Sha.Pt l i d t, s.size = 32
  | 0, _, _ => by intro s z; cases z
  | d + 1, t, ht => by
    intro s z
    rw [Sha.Pt_one] at z
    rcases List.mem_cons.1 z with rfl | z
    · have hm := Sha.div_lt i h t (by omega) hi
      have hsb : Sha.sib (i / 2 ^ t) < 2 ^ (h - t) := by
        have e : h - t = (h - t - 1) + 1 := by omega
        rw [e] at hm ⊢
        exact Sha.sib_lt _ _ hm
      have hin : Sha.sib (i / 2 ^ t) * 2 ^ t + 2 ^ t ≤ l.length := by
        rw [hl]
        have : (Sha.sib (i / 2 ^ t) + 1) * 2 ^ t ≤ 2 ^ (h - t) * 2 ^ t := Nat.mul_le_mul_right _ hsb
        rw [← Nat.pow_add, Nat.sub_add_cancel (by omega), Nat.add_mul, Nat.one_mul] at this
        exact this
      exact Rt32 t _ (Sha.Bk_len l t _ hin) (fun s z => hs s (List.mem_of_mem_take (List.mem_of_mem_drop z)))
    · exact Pt32 l h hl hs i hi d (t + 1) (by omega) s z
theorem lv_32 (s : ByteArray) (h : Int) : ∀ x ∈ lv pub s h, x.size = 32 := by
  intro x hx
  unfold lv lvs at hx
  obtain ⟨i, _, rfl⟩ := List.mem_map.1 hx
  exact Sha.tT_size _ _
theorem pathK_32 (s : ByteArray) (h u : Int) (u0 : 0 ≤ u) (u1 : u < two h) : ∀ x ∈ pathK s h u, x.size = 32 :=
  Pt32 _ h.toNat (lv_len s h) (lv_32 s h) u.toNat (by unfold two at u1; omega) h.toNat 0 (by omega)
theorem sigK_eq (s : ByteArray) (h u : Int) (m : ByteArray) : sigK s h u m = nn u ++ Jn.catS (valsK s u m ++ pathK s h u) := by
  unfold sigK
  rw [catS_app, ByteArray.append_assoc]
theorem all32 (s : ByteArray) (h u : Int) (u0 : 0 ≤ u) (u1 : u < two h) (m : ByteArray) : ∀ x ∈ valsK s u m ++ pathK s h u, x.size = 32 := by
  intro x hx
  rcases List.mem_append.1 hx with hx | hx
  · exact valsK_32 s u m x hx
  · exact pathK_32 s h u u0 u1 x hx
theorem sigK_size (s : ByteArray) (h u : Int) (u0 : 0 ≤ u) (u1 : u < two h) (m : ByteArray) : (sigK s h u m).size = 2 + 32 * (67 + h.toNat) := by
  rw [sigK_eq, ByteArray.size_append, nn_size, cat_32 _ (all32 s h u u0 u1 m), List.length_append, valsK_len, pathK_len]
theorem nn_val (u : Int) (u0 : 0 ≤ u) (u1 : u < 65536) : Oct.bv 0 (bytesOf (nn u)) = u := by
  unfold nn
  rw [Sha.bytes_nums _ (by intro c hc; simp at hc; rcases hc with rfl | rfl <;> omega), Oct.bv_two]
theorem parts_sig (s : ByteArray) (h u : Int) (h0 : 0 ≤ h) (h4 : h ≤ 4) (u0 : 0 ≤ u) (u1 : u < two h) (m : ByteArray) : Oct.Evt.parts5 (sigK s h u m) = (u, valsK s u m, pathK s h u, true) := by
  have h2 := two_le h0 h4
  have hz := sigK_size s h u u0 u1 m
  have hg : Oct.Evt.hgt (sigK s h u m).size = some h.toNat := by
    rw [hz]
    unfold Oct.Evt.hgt
    rw [if_pos (by omega)]
    congr 1
    omega
  unfold Oct.Evt.parts5
  rw [hg]
  have he := ext_two (nn u) (Jn.catS (valsK s u m ++ pathK s h u))
  rw [← sigK_eq, nn_size] at he
  have hl : (valsK s u m ++ pathK s h u).length = 67 + h.toNat := by rw [List.length_append, valsK_len, pathK_len]
  have hc := ch_cat _ (all32 s h u u0 u1 m)
  rw [hl] at hc
  simp only [he.1, he.2, nn_val u u0 (by omega), hc]
  have e2 : (two h : Int) = 2 ^ h.toNat := by simp [two]
  rw [Oct.Evt.prt_yes (by omega), List.take_left' (valsK_len s u m), List.drop_left' (valsK_len s u m)]
/-! what the laws make of their numbers -/
/-! a signature is right -/
theorem back_rc_ (s : ByteArray) (a : Int) (d : ByteArray) (hd : d.size = 32) : Sha.rc (Sha.Dg d) (Sha.sg s a d) = Sha.pb s a := by
  unfold Sha.rc Sha.pb
  congr 1
  refine Sha.tab_eq _ _ 67 (fun q hq => ?_)
  obtain ⟨h1, h2⟩ := Sha.dn_eq (Sha.Dg d) (Sha.Dg_len d hd) (Sha.Dg_mem d hd) q hq
  unfold Sha.en Sha.sg
  rw [Sha.tab_at _ _ _ hq]
  unfold Sha.vl Sha.en15
  rw [Sha.Chn_add, show Sha.dn (Sha.Dg d) q + (15 - Sha.dn (Sha.Dg d) q) = 15 by omega]
theorem rc_vals (s : ByteArray) (u : Int) (m : ByteArray) : Sha.rc (Sha.Dg (dgK m)) (valsK s u m) = Sha.pb s u := back_rc_ s u (dgK m) (dgK_size m)
theorem fold_sig (s : ByteArray) (h u : Int) (u0 : 0 ≤ u) (u1 : u < two h) : Sha.Fo (pathK s h u) u (Sha.pb s u) = rootK s h := by
  obtain ⟨n, rfl⟩ : ∃ n : Nat, u = (n : Int) := ⟨u.toNat, by omega⟩
  have hn : n < 2 ^ h.toNat := by unfold two at u1; omega
  have := Sha.fold_path (lv pub s h) h.toNat (lv_len s h) n hn h.toNat 0 (by omega)
  rw [Nat.pow_zero, Nat.div_one, Sha.Bk_one _ n (by rw [lv_len]; exact hn)] at this
  rw [show (lv pub s h)[n]'(by rw [lv_len]; exact hn) = Sha.pb s (n : Int) from by simp [lv, lvs, pub]] at this
  exact this
theorem verify_sig (s : ByteArray) (h u : Int) (h0 : 0 ≤ h) (h4 : h ≤ 4) (u0 : 0 ≤ u) (u1 : u < two h) (m : ByteArray) (hm : m.size ≤ 2000) : Sha.Ev (fun k => Us.f k (pubK s h) m (sigK s h u m)) true := by
  have hk := Oct.Evt.kp_ev (sigK s h u m) (by rw [sigK_size s h u u0 u1 m]; omega)
  rw [parts_sig s h u h0 h4 u0 u1 m] at hk
  have hr := Sha.recover_ev (dgK m) (valsK s u m) (fun _ => valsK_mem s u m)
  rw [if_pos ⟨dgK_size m, valsK_len s u m⟩, rc_vals] at hr
  have hf := Sha.fold_ev (Sha.pb s u) (by rw [show (Sha.pb s u).size = 32 from Sha.tT_size _ _]; decide) u (pathK s h u) (fun _ => pathK_mem s h u u0 u1)
  have hl := pathK_len s h u
  have e2 : (two h : Int) = 2 ^ h.toNat := by simp [two]
  rw [show Sha.fold (Sha.pb s u) u (pathK s h u) = (Sha.Fo (pathK s h u) u (Sha.pb s u), true) from by unfold Sha.fold; rw [if_pos ⟨by omega, u0, by rw [hl]; omega⟩], fold_sig s h u u0 u1] at hf
  have hn := named_ev h h0 h4 (rootK s h) (rootK_size s h)
  unfold Us.f
  refine Sha.Ev.bind hk (ifs rfl (Sha.Ev.bind (dgK_ev m hm) (Sha.Ev.bind hr (Sha.Ev.bind hf ?_))))
  show Sha.Ev (fun k => (Uw.f k ((pathK s h u).length : Int) (rootK s h)).bind fun x => some (x.toList == (pubK s h).toList)) true
  rw [hl, show ((h.toNat : Nat) : Int) = h by omega]
  refine Sha.Ev.bind hn ?_
  show Sha.Ev (fun _ => some ((pubK s h).toList == (pubK s h).toList)) true
  rw [beq_self_eq_true]
  exact Sha.Ev.pure _
end Go.Proofs.YtdodghifojkclaaGreatDoor.KeyO
