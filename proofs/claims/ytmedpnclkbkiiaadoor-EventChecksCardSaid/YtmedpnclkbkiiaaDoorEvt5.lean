/-
  Events: names; the example.
  Conditions: none.
-/
import Derived.Test.YtmedpnclkbkiiaaDoorEvt1
import Derived.Test.YtmedpnclkbkiiaaDoorSha5
import Derived.Test.YtmedpnclkbkiiaaDoorPPx3
namespace Go.Proofs.YtmedpnclkbkiiaaDoor.Sha
open Go.RowKit Go.Proofs.YtmedpnclkbkiiaaDoor.PP Go.Proofs.YtmedpnclkbkiiaaDoorW.PrintWords Go.Proofs.YtmedpnclkbkiiaaDoorW.PrintLast Go.Proofs.YtmedpnclkbkiiaaDoorW.PrintMore
set_option linter.unusedSimpArgs false
set_option linter.unusedVariables false

theorem bcat_len : ∀ (l : List ByteArray), (∀ s ∈ l, s.size ≤ 4000) → (cat l).length ≤ l.length * 4004
  | [], _ => Nat.le_refl _
  | s :: l, h => by
    have ih := bcat_len l (fun x hx => h x (List.mem_cons_of_mem _ hx))
    have h0 := h s (by simp)
    have hd : s.data.toList.length = s.size := data_length s
    show ((four s.size ++ s.data.toList) ++ cat l).length ≤ _
    rw [List.length_append, List.length_append, hd, List.length_cons]
    have : (four s.size).length = 4 := rfl
    omega
theorem binput_small (a : Int) (l : List ByteArray) (h : ∀ s ∈ l, s.size ≤ 4000) (hl : l.length ≤ 500) : Sha.Ev (fun k => sha_Input.f k a l) ⟨([sha_Input.u8 a] ++ cat l).toArray⟩ := by
  have := bcat_len l h
  have : l.length * 4004 ≤ 500 * 4004 := Nat.mul_le_mul_right _ hl
  exact input_ev a l (fun s hs => by have := h s hs; omega) (by omega)
theorem brinput_ev (l : List ByteArray) (h : ∀ s ∈ l, s.size ≤ 4000) (hl : l.length ≤ 500) : ∀ (d i : Nat) (x : List Int), i + d = l.length → x.length ≤ 1 + i * 4004 → Sha.Ev (fun k => palaverref02_Input.l0 k l x (i : Int)) (strOfNums (x ++ catI (l.drop i)))
  | 0, i, x, hi, hx => by
    refine Ev.succ (G := fun _ => some (strOfNums x)) (fun k => ?_) ?_
    · simp only [palaverref02_Input.l0]
      rw [if_neg (by omega)]
    · rw [List.drop_of_length_le (by omega)]
      show Sha.Ev _ (strOfNums (x ++ []))
      rw [List.append_nil]
      exact Ev.pure _
  | d + 1, i, x, hi, hx => by
    have hlt : i < l.length := by omega
    have hs := h (l[i]) (List.getElem_mem hlt)
    have er : rdOf ByteArray.empty l (i : Int) = l[i] := by
      unfold rdOf
      simp [List.getD, hlt]
    have e2 : wrap64 ((i : Int) + 1) = ((i + 1 : Nat) : Int) := by rw [w64 (by omega) (by omega)]; omega
    have hn := rnum_ev (l[i]).size (by omega)
    have hz : (strOfNums (fourI (l[i]).size)).size = 4 := by rw [strOfNums_size]; rfl
    have hb : bytesOf (strOfNums (fourI (l[i]).size)) = fourI (l[i]).size := bytes_nums _ (fourI_mem _ (by omega))
    have h4 : (fourI (l[i]).size).length = 4 := rfl
    have hbl := bytesOf_length (l[i])
    have ih := brinput_ev l h hl d (i + 1) ((x ++ fourI (l[i]).size) ++ bytesOf (l[i])) (by omega) (by rw [List.length_append, List.length_append, h4, hbl]; omega)
    rw [List.drop_eq_getElem_cons hlt]
    show Sha.Ev _ (strOfNums (x ++ ((fourI (l[i]).size ++ bytesOf (l[i])) ++ catI (l.drop (i + 1)))))
    rw [← List.append_assoc, ← List.append_assoc]
    refine Ev.succ (fun k => ?_) (Ev.bind hn ?_) (G := fun k => (palaverref01_Number.f k ((l[i]).size : Int) 4).bind fun bt => (if x.length + bt.1.size < 140737488355328 then ((some (x ++ bytesOf bt.1 : List Int)).bind fun y => (if y.length + (l[i]).size < 140737488355328 then (palaverref02_Input.l0 k l (y ++ bytesOf (l[i])) ((i + 1 : Nat) : Int)) else (none))) else (none)))
    · simp only [palaverref02_Input.l0, e2, er]
      rw [if_pos (by omega), if_pos (by omega)]
    · simp only [hz, hb, Option.bind_some]
      exact ifs (by omega) (ifs (by rw [List.length_append, h4]; omega) ih)
theorem bcatI_cat : ∀ (l : List ByteArray), (∀ s ∈ l, s.size ≤ 4000) → (catI l).map (fun n => UInt8.ofNat n.toNat) = cat l
  | [], _ => rfl
  | s :: l, h => by
    have hs := h s (by simp)
    have ih := bcatI_cat l (fun x hx => h x (List.mem_cons_of_mem _ hx))
    show ((fourI s.size ++ bytesOf s) ++ catI l).map _ = (four s.size ++ s.data.toList) ++ cat l
    rw [List.map_append, List.map_append, ih]
    have h4 : (fourI s.size).map (fun n => UInt8.ofNat n.toNat) = four s.size := by
      have := nums_four s.size (by omega)
      rw [ByteArray.toList_eq] at this
      exact this
    have hb : (bytesOf s).map (fun n => UInt8.ofNat n.toNat) = s.data.toList := congrArg (fun z : ByteArray => z.data.toList) (nums_bytes2 s)
    rw [h4, hb]
theorem brinput_small (a : Int) (wa : -9223372036854775808 ≤ a ∧ a ≤ 9223372036854775807) (l : List ByteArray) (h : ∀ s ∈ l, s.size ≤ 4000) (hl : l.length ≤ 500) : Sha.Ev (fun k => palaverref02_Input.f k a l) ⟨([sha_Input.u8 a] ++ cat l).toArray⟩ := by
  have := brinput_ev l h hl l.length 0 [(Int.tmod (wrap64 ((Int.tmod a 256) + 256)) 256) % 256] (by omega) (by simp)
  have hm : -256 < Int.tmod a 256 ∧ Int.tmod a 256 < 256 := ⟨by have := Int.lt_tmod_of_pos a (b := 256) (by decide); omega, Int.tmod_lt_of_pos a (by decide)⟩
  have e1 : wrap64 (Int.tmod a 256 + 256) = Int.tmod a 256 + 256 := w64 (by omega) (by omega)
  have e0 : (Int.tmod (Int.tmod a 256 + 256) 256) % 256 = a % 256 := by
    rw [Int.tmod_eq_emod_of_nonneg (a := Int.tmod a 256 + 256) (by omega)]
    have := Int.tmod_add_mul_tdiv a 256
    omega
  have e : (strOfNums ([(Int.tmod (wrap64 ((Int.tmod a 256) + 256)) 256) % 256] ++ catI (l.drop 0))) = (⟨([sha_Input.u8 a] ++ cat l).toArray⟩ : ByteArray) := by
    apply Oct.ba_ext
    rw [strOfNums_data, List.map_append, List.drop_zero, bcatI_cat l h, e1, e0]
    rfl
  rw [e] at this
  exact this
theorem bsmall_size (a : Int) (l : List ByteArray) (h : ∀ s ∈ l, s.size ≤ 4000) (hl : l.length ≤ 500) : (⟨([sha_Input.u8 a] ++ cat l).toArray⟩ : ByteArray).size ≤ 140737488355000 := by
  have := bcat_len l h
  have : l.length * 4004 ≤ 500 * 4004 := Nat.mul_le_mul_right _ hl
  rw [← data_length]
  simp
  omega
theorem tag_same (t : Int) (wt : -9223372036854775808 ≤ t ∧ t ≤ 9223372036854775807) (s : ByteArray) (hs : s.size ≤ 4000) : ∃ r : ByteArray, Sha.Ev (fun k => sha_Tag.f k t [s]) r ∧ Sha.Ev (fun k => palaverref02_Tag.f k t [s]) r := by
  have h : ∀ x ∈ [s], x.size ≤ 4000 := by
    intro x hx
    simp at hx
    rw [hx]
    exact hs
  obtain ⟨r, h1, h2, _⟩ := sum_same _ (bsmall_size t [s] h (by simp))
  refine ⟨r, ?_, ?_⟩
  · unfold sha_Tag.f
    exact Ev.bind (binput_small t [s] h (by simp)) (Ev.bind h1 (Ev.pure _))
  · unfold palaverref02_Tag.f
    exact Ev.bind (brinput_small t wt [s] h (by simp)) (Ev.bind h2 (Ev.pure _))
end Go.Proofs.YtmedpnclkbkiiaaDoor.Sha
namespace Go.Proofs.YtmedpnclkbkiiaaDoor.Oct.Evt
open Go.RowKit Go.Proofs.YtmedpnclkbkiiaaDoor.PP Go.Proofs.YtmedpnclkbkiiaaDoorW.PrintWords Go.Proofs.YtmedpnclkbkiiaaDoorW.PrintLast Go.Proofs.YtmedpnclkbkiiaaDoorW.PrintMore
open Go.Proofs.YtmedpnclkbkiiaaDoor.Sha (ifs ifn)
set_option linter.unusedSimpArgs false
set_option linter.unusedVariables false

/-! names -/
theorem id_same (s : ByteArray) (hs : s.size ≤ 4000) : ∃ r, Sha.Ev (fun k => event_Id.f k s) r ∧ Sha.Ev (fun k => palaverref06_Id.f k s) r := by
  obtain ⟨r, h1, h2⟩ := Sha.tag_same 7 (by decide) s hs
  exact ⟨r, Sha.Ev.bind h1 (Sha.Ev.pure _), Sha.Ev.bind h2 (Sha.Ev.pure _)⟩
/-! the example -/
def aa (n : Nat) : ByteArray := ⟨(List.replicate n 97).toArray⟩
theorem aa_size (n : Nat) : (aa n).size = n := by
  show (List.replicate n 97).toArray.size = n
  simp
theorem aa_succ (n : Nat) : aa n ++ (⟨#[97]⟩ : ByteArray) = aa (n + 1) := by
  apply ba_ext
  rw [data_app]
  show List.replicate n 97 ++ [97] = List.replicate (n + 1) 97
  rw [List.replicate_succ']
theorem right_aa : rightB 1 (aa 32) [] (⟨#[114]⟩ : ByteArray) (⟨#[]⟩ : ByteArray) = true := by
  unfold rightB
  rw [show ([] : List ByteArray).length = 0 from rfl, fromB_end, Bool.true_and]
  unfold tailB
  rw [aa_size]
  rfl
theorem enc_aa : (enc 1 (aa 32) [] (⟨#[114]⟩ : ByteArray) (⟨#[]⟩ : ByteArray)) = (((⟨#[1, 0, 32]⟩ : ByteArray) ++ aa 32) ++ (⟨#[0, 0, 1, 114, 0, 0]⟩ : ByteArray)) := by
  have e : lay (aa 32) = (⟨#[0, 32]⟩ : ByteArray) ++ aa 32 := by
    unfold lay
    rw [aa_size]
    rfl
  unfold enc cont
  rw [e]
  apply ba_ext
  simp only [data_app]
  rfl
theorem awake_loop : ∀ m i : Nat, i + m = 32 → Sha.Ev (fun k => palaverlaw06_awake.l0 k (aa i)) true
  | 0, i, h => by
    have e : i = 32 := by omega
    subst e
    obtain ⟨r, h1, h2⟩ := id_same (⟨#[120]⟩ : ByteArray) (by decide)
    refine Sha.Ev.succ (fun k => palaverlaw06_awake.l0.eq_2 (aa 32) k) (ifn (by rw [aa_size]; decide) ?_)
    have he := encode_ev 1 (aa 32) [] (⟨#[114]⟩ : ByteArray) (⟨#[]⟩ : ByteArray) (by simp)
    unfold encR at he
    rw [if_pos right_aa] at he
    refine Sha.Ev.bind he (ifs rfl (ifs (by rw [aa_size]; decide) (ifs (by rw [app_size, aa_size]; decide) (ifs (by rw [enc_aa]) ?_))))
    refine Sha.Ev.bind h1 (Sha.Ev.bind h2 ?_)
    rw [beq_self_eq_true]
    exact Sha.Ev.pure _
  | m + 1, i, h => by
    have ih := awake_loop m (i + 1) (by omega)
    refine Sha.Ev.succ (fun k => palaverlaw06_awake.l0.eq_2 (aa i) k) (ifs (by rw [aa_size]; omega) (ifs (by rw [aa_size]; omega) ?_))
    rw [aa_succ]
    exact ih
theorem awake_ev : Sha.Ev (fun k => palaverlaw06_awake.f k) true := awake_loop 32 0 rfl
theorem awake_then : Sha.Ev (fun k => (palaverlaw06_awake.f k).bind fun t => some t) true := Sha.Ev.bind awake_ev (Sha.Ev.pure _)
end Go.Proofs.YtmedpnclkbkiiaaDoor.Oct.Evt
