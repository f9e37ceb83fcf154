/-
  The document's answers for keys are the same: leaves, publics, signatures.
-/
import Derived.Test.YtdodghifojkclaaGreatDoorKeyQ
import Derived.Test.YtdodghifojkclaaGreatDoorMrk4
import Derived.Test.YtdodghifojkclaaGreatDoorPPx3
namespace Go.Proofs.YtdodghifojkclaaGreatDoor.KeyO
open Go.RowKit Go.Proofs.YtdodghifojkclaaGreatDoor.PP Go.Proofs.YtdodghifojkclaaGreatDoorW.PrintWords Go.Proofs.YtdodghifojkclaaGreatDoorW.PrintLast Go.Proofs.YtdodghifojkclaaGreatDoorW.PrintMore
set_option linter.unusedVariables false
set_option linter.unusedSimpArgs false
open Go.Proofs.YtdodghifojkclaaGreatDoor.Sha (ifs ifn)

theorem rl1 (s : ByteArray) (hs : s.size ≤ 300) (n : Nat) (hn : n ≤ 16) : ∀ (d j : Nat), j + d = n → Sha.Ev (fun k => Jl.l1 k s (lvs (pub s) j) (n : Int) (j : Int)) (lvs (pub s) n)
  | 0, j, h => by
    obtain rfl : j = n := by omega
    refine Sha.Ev.succ (G := fun _ => some (lvs (pub s) j)) (fun k => ?_) (Sha.Ev.pure _)
    simp only [Jl.l1]
    rw [if_neg (by omega)]
  | d + 1, j, h => by
    have ih := rl1 s hs n hn d (j + 1) (by omega)
    rw [lvs_succ] at ih
    have hlim : (lvs (pub s) j).length < 8796093022208 := by rw [lvs_len]; omega
    refine Sha.Ev.succ (G := fun k => (J6.f k s (j : Int)).bind fun t => (if (lvs (pub s) j).length < 8796093022208 then Jl.l1 k s (lvs (pub s) j ++ [t]) (n : Int) ((j + 1 : Nat) : Int) else none)) (fun k => ?_) (Sha.Ev.bind (Sha.rpublic_ev s hs (j : Int) (by omega) (by omega)) (ifs hlim ih))
    simp only [Jl.l1, Sha.upI j (by omega)]
    rw [if_pos (by omega)]
theorem two_up (j : Nat) (h : j < 4) : wrap64 (2 * ((2 ^ j : Nat) : Int)) = ((2 ^ (j + 1) : Nat) : Int) := by
  rcases (by omega : j = 0 ∨ j = 1 ∨ j = 2 ∨ j = 3) with rfl | rfl | rfl | rfl <;> kernel_rfl
theorem rl0 (s : ByteArray) (hs : s.size ≤ 300) (n : Nat) (hn : n ≤ 4) : ∀ (d j : Nat), j + d = n → Sha.Ev (fun k => Jl.l0 k s (n : Int) ((2 ^ j : Nat) : Int) (j : Int)) (lvs (pub s) (2 ^ n))
  | 0, j, h => by
    obtain rfl : j = n := by omega
    have h16 : 2 ^ j ≤ 16 := Nat.le_trans (Nat.pow_le_pow_right (by decide) hn) (by decide)
    refine Sha.Ev.succ (fun k => ?_) (rl1 s hs (2 ^ j) h16 (2 ^ j) 0 (by omega))
    simp only [Jl.l0]
    rw [if_neg (by omega)]
    rfl
  | d + 1, j, h => by
    refine Sha.Ev.succ (fun k => ?_) (rl0 s hs n hn d (j + 1) (by omega))
    simp only [Jl.l0, Sha.upI j (by omega), two_up j (by omega)]
    rw [if_pos (by omega)]
theorem rleaves_ev (s : ByteArray) (hs : s.size ≤ 300) (h : Int) (h0 : 0 ≤ h) (h4 : h ≤ 4) : Sha.Ev (fun k => Jl.f k s h) (lv pub s h) := by
  obtain ⟨n, rfl⟩ : ∃ n : Nat, h = (n : Int) := ⟨h.toNat, by omega⟩
  exact rl0 s hs n (by omega) n 0 (by omega)
theorem rnamed_ev (h : Int) (h0 : 0 ≤ h) (h4 : h ≤ 4) (x : ByteArray) (hx : x.size ≤ 300) : Sha.Ev (fun k => Uj.f k h x) (Sha.tT 5 [Sha.one h.toNat, x]) := by
  obtain ⟨n, rfl⟩ : ∃ n : Nat, h = (n : Int) := ⟨h.toNat, by omega⟩
  unfold Uj.f
  exact Sha.Ev.bind (Sha.rone_ev n (by omega)) (Sha.Ev.bind (Sha.rtagT 5 (by decide) _ (pair_mem _ _ (by rw [Sha.one_size]; decide) (by omega)) (by simp)) (Sha.Ev.pure _))
theorem rpublic_ (s : ByteArray) (hs : s.size ≤ 300) (h : Int) (h0 : 0 ≤ h) (h4 : h ≤ 4) : Sha.Ev (fun k => Uk.f k s h) (pubK s h) := by
  unfold Uk.f
  exact Sha.Ev.bind (rleaves_ev s hs h h0 h4) (Sha.Ev.bind (Sha.rroot_ev (lv pub s h) h.toNat (by omega) (lv_len s h) (lv_mem s h)) (Sha.Ev.bind (rnamed_ev h h0 h4 _ (rootK_size s h)) (Sha.Ev.pure _)))
theorem catS_nil : Jn.catS [] = ⟨#[]⟩ := rfl
theorem catS_cons (x : ByteArray) (l : List ByteArray) : Jn.catS (x :: l) = x ++ Jn.catS l := by
  apply ByteArray.ext
  rw [ByteArray.data_append]
  show (x.data.toList ++ Jn.cat l).toArray = x.data ++ (Jn.cat l).toArray
  apply Array.ext'
  simp
theorem app_nil (x : ByteArray) : x ++ (⟨#[]⟩ : ByteArray) = x := by
  apply ByteArray.ext
  rw [ByteArray.data_append]
  simp
theorem cat_step (l : List ByteArray) (j : Nat) (hj : j < l.length) (x : ByteArray) : x ++ Jn.catS (l.drop j) = (x ++ rdOf ByteArray.empty l (j : Int)) ++ Jn.catS (l.drop (j + 1)) := by
  rw [List.drop_eq_getElem_cons hj, catS_cons, Sha.rdo_get l j hj, ByteArray.append_assoc]
theorem rs1 (l : List ByteArray) (hl : l.length ≤ 100) (hm : ∀ x ∈ l, x.size ≤ 300) : ∀ (d j : Nat) (x : ByteArray), j + d = l.length → x.size ≤ 100000 + 300 * j → Sha.Ev (fun k => Jr.l1 k x l (j : Int)) (x ++ Jn.catS (l.drop j))
  | 0, j, x, h, hx => by
    rw [List.drop_of_length_le (by omega), catS_nil, app_nil]
    refine Sha.Ev.succ (G := fun _ => some x) (fun k => ?_) (Sha.Ev.pure _)
    simp only [Jr.l1]
    rw [if_neg (by omega)]
  | d + 1, j, x, h, hx => by
    have hj : j < l.length := by omega
    have hz : (rdOf ByteArray.empty l (j : Int)).size ≤ 300 := by rw [Sha.rdo_get l j hj]; exact hm _ (List.getElem_mem hj)
    have ih := rs1 l hl hm d (j + 1) (x ++ rdOf ByteArray.empty l (j : Int)) (by omega) (by rw [ByteArray.size_append]; omega)
    rw [cat_step l j hj x]
    refine Sha.Ev.succ (fun k => ?_) ih
    simp only [Jr.l1, Sha.upI j (by omega)]
    rw [if_pos (by omega), if_pos (by omega), if_pos (by omega)]
theorem rs0 (p : List ByteArray) (hp : p.length ≤ 100) (hpm : ∀ x ∈ p, x.size ≤ 300) (l : List ByteArray) (hl : l.length ≤ 100) (hm : ∀ x ∈ l, x.size ≤ 300) : ∀ (d j : Nat) (x : ByteArray), j + d = l.length → x.size ≤ 300 + 300 * j → Sha.Ev (fun k => Jr.l0 k x l p (j : Int)) ((x ++ Jn.catS (l.drop j)) ++ Jn.catS p)
  | 0, j, x, h, hx => by
    rw [List.drop_of_length_le (by omega), catS_nil, app_nil]
    refine Sha.Ev.succ (fun k => ?_) (rs1 p hp hpm p.length 0 x (by omega) (by omega))
    simp only [Jr.l0]
    rw [if_neg (by omega)]
    rfl
  | d + 1, j, x, h, hx => by
    have hj : j < l.length := by omega
    have hz : (rdOf ByteArray.empty l (j : Int)).size ≤ 300 := by rw [Sha.rdo_get l j hj]; exact hm _ (List.getElem_mem hj)
    have ih := rs0 p hp hpm l hl hm d (j + 1) (x ++ rdOf ByteArray.empty l (j : Int)) (by omega) (by rw [ByteArray.size_append]; omega)
    rw [cat_step l j hj x]
    refine Sha.Ev.succ (fun k => ?_) ih
    simp only [Jr.l0, Sha.upI j (by omega)]
    rw [if_pos (by omega), if_pos (by omega), if_pos (by omega)]
theorem rdgK_ev (m : ByteArray) (hm : m.size ≤ 2000) : Sha.Ev (fun k => Jo.f k 6 [m]) (dgK m) := Sha.rtagT 6 (by decide) _ (one_mem m hm) (by simp)
theorem rsign_ (s : ByteArray) (hs : s.size ≤ 300) (h u : Int) (h0 : 0 ≤ h) (h4 : h ≤ 4) (u0 : 0 ≤ u) (u1 : u < two h) (m : ByteArray) (hm : m.size ≤ 2000) : Sha.Ev (fun k => Jr.f k s h u m) (sigK s h u m) := by
  have h2 := two_le h0 h4
  have hpa : Sha.Ev (fun k => Jz.f k (lv pub s h) u) (pathK s h u) := by
    obtain ⟨n, rfl⟩ : ∃ n : Nat, u = (n : Int) := ⟨u.toNat, by omega⟩
    exact Sha.rpath_ev (lv pub s h) h.toNat (by omega) (lv_len s h) (lv_mem s h) n (by unfold two at u1; omega)
  unfold Jr.f
  refine Sha.Ev.bind (Sha.rtwo_ev u u0 (by omega)) (Sha.Ev.bind (rdgK_ev m hm) (Sha.Ev.bind (Sha.rsign_ev s hs u u0 (by omega) (dgK m) (dgK_size m)) (Sha.Ev.bind (rleaves_ev s hs h h0 h4) (Sha.Ev.bind hpa ?_))))
  have := rs0 (pathK s h u) (by rw [pathK_len]; omega) (pathK_mem s h u u0 u1) (valsK s u m) (by rw [valsK_len]; decide) (valsK_mem s u m) 67 0 (nn u) (by rw [valsK_len]) (by rw [nn_size]; decide)
  exact this
/-! the exact sizes -/
theorem Chn32 (q : Nat) : ∀ (n : Nat) (x : ByteArray), x.size = 32 → (Sha.Chn q n x).size = 32
  | 0, x, h => h
  | n + 1, x, h => Chn32 q n _ (Sha.stp_size q x)
theorem valsK_32 (s : ByteArray) (u : Int) (m : ByteArray) : ∀ x ∈ valsK s u m, x.size = 32 := Sha.tab_mem _ _ _ (fun q _ => Chn32 _ _ _ (Sha.sc_size _ _ _))
theorem cat_32 : ∀ (l : List ByteArray), (∀ x ∈ l, x.size = 32) → (Jn.catS l).size = 32 * l.length
  | [], _ => rfl
  | x :: l, h => by
    rw [catS_cons, ByteArray.size_append, h x (List.mem_cons_self ..), cat_32 l (fun y hy => h y (List.mem_cons_of_mem _ hy)), List.length_cons]
    omega
/-! ### The laws' example: a key of one leaf signs once -/

end Go.Proofs.YtdodghifojkclaaGreatDoor.KeyO
