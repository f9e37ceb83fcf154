/-
  ShaClashes: of any texts the first two that are unlike and have one digest, or that there are none such.
  Conditions: none of our own (what is read takes at most the model's reach; the program's table reads as its text lays it: the card's tie).
-/
import Derived.Test.YtlnodlhlbaigkaaDoorStShaClashes
import Derived.Test.YtlnodlhlbaigkaaDoorSha5
import Derived.Test.YtlnodlhlbaigkaaDoorPPx15
namespace Go.Proofs.YtlnodlhlbaigkaaDoor.Pure
open Go.RowKit Go.Proofs.YtlnodlhlbaigkaaDoor.PP Go.Proofs.YtlnodlhlbaigkaaDoorW.PrintWords Go.Proofs.YtlnodlhlbaigkaaDoorW.PrintLast Go.Proofs.YtlnodlhlbaigkaaDoorW.PrintMore Go.Proofs.YtlnodlhlbaigkaaDoor.Sha
set_option linter.unusedSimpArgs false
set_option linter.unusedVariables false

def dig (s : ByteArray) : ByteArray := fin (bd (nb s) (PD s (8 * (s.size : Int))) Sha.start)
theorem at_map (l : List ByteArray) (i : Nat) (h : i < l.length) : rdOf ByteArray.empty (l.map dig) (i : Int) = dig (at_ l i) := by
  unfold at_ rdOf
  simp [List.getD, h]
theorem at_small (l : List ByteArray) (h : ∀ s ∈ l, s.size ≤ 2000) (i : Nat) (hi : i < l.length) : (at_ l i).size ≤ 140737488355000 := by
  have : at_ l i = l[i] := by
    unfold at_ rdOf
    simp [List.getD, hi]
  rw [this]
  have := h _ (List.getElem_mem hi)
  omega
/-- Two unlike texts that have one digest. -/
def clB (l : List ByteArray) (a b : Nat) : Bool := !((at_ l a).toList == (at_ l b).toList) && ((dig (at_ l a)).toList == (dig (at_ l b)).toList)
theorem cl_yes {l : List ByteArray} {a b : Nat} (h : clB l a b = true) : ¬ (at_ l a).toList = (at_ l b).toList ∧ (dig (at_ l a)).toList = (dig (at_ l b)).toList := by
  unfold clB at h
  simpa using h
theorem cl_not {l : List ByteArray} {a b : Nat} (h : ¬ clB l a b = true) : (at_ l a).toList = (at_ l b).toList ∨ ¬ (dig (at_ l a)).toList = (dig (at_ l b)).toList := by
  by_cases c : (at_ l a).toList = (at_ l b).toList
  · exact .inl c
  · refine .inr fun z => h ?_
    unfold clB
    simp [c, z]
def find2 (l : List ByteArray) (a : Nat) : Nat → Nat → Option (Nat × Nat)
  | 0, _ => none
  | d + 1, b => if clB l a b = true then some (a, b) else find2 l a d (b + 1)
def els (x y : Option (Nat × Nat)) : Option (Nat × Nat) := match x with
  | some p => some p
  | none => y
def find1 (l : List ByteArray) : Nat → Nat → Option (Nat × Nat)
  | 0, _ => none
  | d + 1, a => els (find2 l a (l.length - (a + 1)) (a + 1)) (find1 l d (a + 1))
def Res (x : Option (Nat × Nat)) : Int × Int × Bool := match x with
  | some p => ((p.1 : Int), (p.2 : Int), true)
  | none => (0, 0, false)
theorem up (i : Nat) (h : i ≤ 1000) : wrap64 ((i : Int) + 1) = ((i + 1 : Nat) : Int) := by rw [Sha.w64 (by omega) (by omega)]; omega
/-! the program's search -/
theorem c0_ev (l : List ByteArray) (h : ∀ s ∈ l, s.size ≤ 2000) (hn : l.length ≤ 500) (r : Int × Int × Bool) (h1 : Sha.Ev (fun k => sha_Clash.l1 k l (l.map dig) (l.length : Int) 0) r) : ∀ (d i : Nat) (x R : List ByteArray), i + d = l.length → R.length = d → x = (l.map dig).take i ++ R → Sha.Ev (fun k => sha_Clash.l0 k l x l (l.length : Int) (i : Int)) r
  | 0, i, x, R, hi, hR, hx => by
    have : x = l.map dig := by
      rw [hx, List.length_eq_zero_iff.1 hR, List.append_nil, List.take_of_length_le (by rw [List.length_map]; omega)]
    rw [this]
    refine Sha.Ev.succ (fun k => ?_) h1
    simp only [sha_Clash.l0]
    rw [if_neg (by omega)]
  | d + 1, i, x, R, hi, hR, hx => by
    have hil : i < l.length := by omega
    have hxl : x.length = l.length := by rw [hx, List.length_append, List.length_take, List.length_map]; omega
    have hs := sum_ev (at_ l i) (at_small l h i hil)
    have hset : x.set i (dig (at_ l i)) = (l.map dig).take (i + 1) ++ R.tail := by
      match R, hR with
      | v :: R, _ =>
        have hti : ((l.map dig).take i).length = i := by rw [List.length_take, List.length_map]; omega
        rw [hx, List.set_append_right _ _ (by omega), hti, Nat.sub_self, List.set_cons_zero, List.tail_cons, List.take_add_one, List.append_assoc]
        congr 1
        unfold at_ rdOf
        simp [List.getD, hil]
    have ih := c0_ev l h hn r h1 d (i + 1) (x.set i (dig (at_ l i))) R.tail (by omega) (by rw [List.length_tail]; omega) hset
    refine Sha.Ev.succ (fun k => ?_) (Sha.Ev.bind hs (ifs (show (i : Int) < (x.length : Int) by omega) ih)) (G := fun k => (sha_Sum.f k (at_ l i)).bind fun t => if (i : Int) < (x.length : Int) then sha_Clash.l0 k l (x.set i t) l (l.length : Int) ((i + 1 : Nat) : Int) else none)
    simp only [sha_Clash.l0, up i (by omega)]
    rw [if_pos (by omega), if_pos (by omega), if_pos (by omega)]
    rfl
theorem c2_ev (l : List ByteArray) (hn : l.length ≤ 500) (a : Nat) (ha : a < l.length) (nx : Option (Nat × Nat)) (h1 : Sha.Ev (fun k => sha_Clash.l1 k l (l.map dig) (l.length : Int) ((a + 1 : Nat) : Int)) (Res nx)) :
    ∀ (d b : Nat), b + d = l.length → a < b → Sha.Ev (fun k => sha_Clash.l2 k l (l.map dig) (a : Int) (b : Int) (l.length : Int) (a : Int)) (Res (els (find2 l a d b) nx))
  | 0, b, hb, hab => by
    refine Sha.Ev.succ (fun k => ?_) h1
    simp only [sha_Clash.l2, up a (by omega)]
    rw [if_neg (by omega)]
  | d + 1, b, hb, hab => by
    have hm : (l.map dig).length = l.length := List.length_map ..
    have ih := c2_ev l hn a ha nx h1 d (b + 1) (by omega) (by omega)
    by_cases c : clB l a b = true
    · obtain ⟨c1, c2⟩ := cl_yes c
      rw [show find2 l a (d + 1) b = some (a, b) from if_pos c]
      refine Sha.Ev.succ (G := fun _ => some (Res (some (a, b)))) (fun k => ?_) (Sha.Ev.pure _)
      unfold at_ at c1
      simp only [sha_Clash.l2, at_map l a ha, at_map l b (by omega)]
      rw [if_pos (by omega), if_pos (by omega), if_pos (by omega), if_pos (by omega), if_pos (by omega), if_pos c2, if_pos (by omega), if_neg c1]
      rfl
    · rw [show find2 l a (d + 1) b = find2 l a d (b + 1) from if_neg c]
      refine Sha.Ev.succ (fun k => ?_) ih
      have c3 := cl_not c
      simp only [sha_Clash.l2, at_map l a ha, at_map l b (by omega), up b (by omega)]
      rw [if_pos (by omega), if_pos (by omega), if_pos (by omega), if_pos (by omega), if_pos (by omega)]
      by_cases c4 : (dig (at_ l a)).toList = (dig (at_ l b)).toList
      · have c5 : (at_ l a).toList = (at_ l b).toList := by
          rcases c3 with c3 | c3
          · exact c3
          · exact absurd c4 c3
        unfold at_ at c5
        rw [if_pos c4, if_pos (by omega), if_pos c5]
      · rw [if_neg c4]
theorem c1_ev (l : List ByteArray) (hn : l.length ≤ 500) : ∀ (d a : Nat), a + d = l.length → Sha.Ev (fun k => sha_Clash.l1 k l (l.map dig) (l.length : Int) (a : Int)) (Res (find1 l d a))
  | 0, a, ha => by
    refine Sha.Ev.succ (G := fun _ => some (Res none)) (fun k => ?_) (Sha.Ev.pure _)
    simp only [sha_Clash.l1]
    rw [if_neg (by omega)]
    rfl
  | d + 1, a, ha => by
    have h2 := c2_ev l hn a (by omega) _ (c1_ev l hn d (a + 1) (by omega)) (l.length - (a + 1)) (a + 1) (by omega) (by omega)
    refine Sha.Ev.succ (fun k => ?_) h2
    simp only [sha_Clash.l1, up a (by omega)]
    rw [if_pos (by omega)]
theorem clash_ev (l : List ByteArray) (h : ∀ s ∈ l, s.size ≤ 2000) (hn : l.length ≤ 500) : Sha.Ev (fun k => sha_Clash.f k l) (Res (find1 l l.length 0)) := by
  have := c0_ev l h hn _ (c1_ev l hn l.length 0 (by omega)) l.length 0 (List.replicate l.length ⟨#[]⟩) (List.replicate l.length ⟨#[]⟩) (by omega) (by rw [List.length_replicate]) rfl
  unfold sha_Clash.f
  exact ifs (by omega) (ifs (by omega) this)
/-! the law's search -/
theorem b1_ev (l : List ByteArray) (h : ∀ s ∈ l, s.size ≤ 2000) (hn : l.length ≤ 500) (F : Option (Nat × Nat)) (a : Nat) (ha : a < l.length) (nx : Option (Nat × Nat)) (h1 : nx = F → Sha.Ev (fun k => palaverlaw02_ShaClashes.l0 k l (Res F).1 (Res F).2.1 (Res F).2.2 ((a + 1 : Nat) : Int)) true) :
    ∀ (d b : Nat), b + d = l.length → a < b → els (find2 l a d b) nx = F → Sha.Ev (fun k => palaverlaw02_ShaClashes.l1 k l (Res F).1 (Res F).2.1 (Res F).2.2 (a : Int) (b : Int)) true
  | 0, b, hb, hab, hF => by
    refine Sha.Ev.succ (fun k => ?_) (h1 hF)
    simp only [palaverlaw02_ShaClashes.l1, up a (by omega)]
    rw [if_neg (by omega)]
  | d + 1, b, hb, hab, hF => by
    have hsa := ref_ev (at_ l a) (at_small l h a ha)
    have hsb := ref_ev (at_ l b) (at_small l h b (by omega))
    by_cases c : clB l a b = true
    · obtain ⟨c1, c2⟩ := cl_yes c
      rw [show find2 l a (d + 1) b = some (a, b) from if_pos c] at hF
      have e : F = some (a, b) := hF.symm
      subst e
      refine Sha.Ev.succ (fun k => ?_) (Sha.Ev.bind hsa (Sha.Ev.bind hsb (ifs c2 (ifs (show (Res (some (a, b))).2.2 = true from rfl) (ifs (show (Res (some (a, b))).1 = (a : Int) from rfl) (ifs (show (Res (some (a, b))).2.1 = (b : Int) from rfl) awake_then))))))
        (G := fun k => (palaverref02_Sum.f k (at_ l a)).bind fun t => (palaverref02_Sum.f k (at_ l b)).bind fun u => if t.toList = u.toList then (if (Res (some (a, b))).2.2 = true then (if (Res (some (a, b))).1 = (a : Int) then (if (Res (some (a, b))).2.1 = (b : Int) then ((palaverlaw02_awake.f k).bind fun t => some t) else some false) else some false) else some false) else palaverlaw02_ShaClashes.l1 k l (Res (some (a, b))).1 (Res (some (a, b))).2.1 (Res (some (a, b))).2.2 (a : Int) (wrap64 ((b : Int) + 1)))
      unfold at_ at c1
      rw [palaverlaw02_ShaClashes.l1, if_pos (by omega), if_pos (by omega), if_pos (by omega), if_pos (by omega), if_neg c1]
      rfl
    · rw [show find2 l a (d + 1) b = find2 l a d (b + 1) from if_neg c] at hF
      have ih := b1_ev l h hn F a ha nx h1 d (b + 1) (by omega) (by omega) hF
      by_cases c5 : (at_ l a).toList = (at_ l b).toList
      · refine Sha.Ev.succ (fun k => ?_) ih
        unfold at_ at c5
        rw [palaverlaw02_ShaClashes.l1, if_pos (by omega), if_pos (by omega), if_pos (by omega), if_pos (by omega), if_pos c5, up b (by omega)]
      · have c4 : ¬ (dig (at_ l a)).toList = (dig (at_ l b)).toList := by
          rcases cl_not c with c3 | c3
          · exact absurd c3 c5
          · exact c3
        refine Sha.Ev.succ (fun k => ?_) (Sha.Ev.bind hsa (Sha.Ev.bind hsb (ifn c4 ih)))
          (G := fun k => (palaverref02_Sum.f k (at_ l a)).bind fun t => (palaverref02_Sum.f k (at_ l b)).bind fun u => if t.toList = u.toList then (if (Res F).2.2 = true then (if (Res F).1 = (a : Int) then (if (Res F).2.1 = (b : Int) then ((palaverlaw02_awake.f k).bind fun t => some t) else some false) else some false) else some false) else palaverlaw02_ShaClashes.l1 k l (Res F).1 (Res F).2.1 (Res F).2.2 (a : Int) ((b + 1 : Nat) : Int))
        unfold at_ at c5
        rw [palaverlaw02_ShaClashes.l1, if_pos (by omega), if_pos (by omega), if_pos (by omega), if_pos (by omega), if_neg c5, up b (by omega)]
        rfl
theorem b0_ev (l : List ByteArray) (h : ∀ s ∈ l, s.size ≤ 2000) (hn : l.length ≤ 500) (F : Option (Nat × Nat)) : ∀ (d a : Nat), a + d = l.length → find1 l d a = F → Sha.Ev (fun k => palaverlaw02_ShaClashes.l0 k l (Res F).1 (Res F).2.1 (Res F).2.2 (a : Int)) true
  | 0, a, ha, hF => by
    have e : F = none := hF.symm
    subst e
    refine Sha.Ev.succ (fun k => ?_) awake_then
    rw [palaverlaw02_ShaClashes.l0, if_neg (by omega), if_pos (show (Res none).1 = 0 from rfl), if_pos (show (Res none).2.1 = 0 from rfl), if_neg (show ¬ (Res none).2.2 = true from Bool.false_ne_true)]
  | d + 1, a, ha, hF => by
    have := b1_ev l h hn F a (by omega) (find1 l d (a + 1)) (fun e => b0_ev l h hn F d (a + 1) (by omega) e) (l.length - (a + 1)) (a + 1) (by omega) (by omega) hF
    refine Sha.Ev.succ (fun k => ?_) this
    rw [palaverlaw02_ShaClashes.l0, if_pos (by omega), up a (by omega)]
theorem ShaClashes : palaverlaw02_ShaClashes.Stmt := by
  intro l hl
  suffices h : Sha.Ev (fun k => palaverlaw02_ShaClashes.f k l) true from h.get
  obtain ⟨n, hn, c⟩ := size_f l (by omega)
  unfold palaverlaw02_ShaClashes.f
  refine Sha.Ev.bind hn ?_
  by_cases k : n > 2000
  · exact ifs k awake_then
  · obtain ⟨l1, l2⟩ := c (by omega)
    exact ifn k (Sha.Ev.bind (clash_ev l l1 l2) (b0_ev l l1 l2 _ l.length 0 (by omega) rfl))
end Go.Proofs.YtlnodlhlbaigkaaDoor.Pure
