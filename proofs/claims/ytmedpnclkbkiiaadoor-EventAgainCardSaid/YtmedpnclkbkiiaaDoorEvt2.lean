/-
  Events: content and bytes, as the program lays them.
  Conditions: none.
-/
import Derived.Test.YtmedpnclkbkiiaaDoorEvt1
import Derived.Test.YtmedpnclkbkiiaaDoorPPx2
namespace Go.Proofs.YtmedpnclkbkiiaaDoor.Oct.Evt
open Go.RowKit Go.Proofs.YtmedpnclkbkiiaaDoor.PP Go.Proofs.YtmedpnclkbkiiaaDoorW.PrintWords Go.Proofs.YtmedpnclkbkiiaaDoorW.PrintLast Go.Proofs.YtmedpnclkbkiiaaDoorW.PrintMore
open Go.Proofs.YtmedpnclkbkiiaaDoor.Sha (ifs ifn)
set_option linter.unusedSimpArgs false
set_option linter.unusedVariables false

theorem app_assoc (a b c : ByteArray) : a ++ b ++ c = a ++ (b ++ c) := by
  apply ba_ext
  simp only [data_app, List.append_assoc]
theorem nil_app (a : ByteArray) : (⟨#[]⟩ : ByteArray) ++ a = a := by
  apply ba_ext
  rw [data_app]
  rfl
/-- One byte. -/
def one (a : Int) : ByteArray := strOfNums [a % 256]
theorem one_size (a : Int) : (one a).size = 1 := by unfold one; rw [strOfNums_size]; rfl
/-- Ids, one behind the other. -/
def catI : List ByteArray → ByteArray
  | [] => ⟨#[]⟩
  | t :: l => t ++ catI l
/-- What of an event is signed. -/
def cont (kind : Int) (a : ByteArray) (ps : List ByteArray) (b : ByteArray) : ByteArray := (((one kind ++ lay a) ++ one ps.length) ++ catI ps) ++ lay b
/-- An event's bytes. -/
def enc (kind : Int) (a : ByteArray) (ps : List ByteArray) (b s : ByteArray) : ByteArray := cont kind a ps b ++ lay s
theorem text_eq (k : Nat) (s : ByteArray) (h : s.size ≤ 65535) : octets_Text.f (k + 5) s = some (lay s, true) := by
  unfold octets_Text.f octets_Short.f
  rw [if_neg (by omega), short_eq, if_neg (by omega)]
  simp only [Option.bind_some]
  rw [if_pos (by rw [strOfNums_size]; simp; omega)]
  rfl
theorem text_ev (s : ByteArray) (h : s.size ≤ 65535) : Sha.Ev (fun k => octets_Text.f k s) (lay s, true) := by
  refine ⟨5, fun k hk => ?_⟩
  obtain ⟨j, rfl⟩ : ∃ j, k = j + 5 := ⟨k - 5, by omega⟩
  exact text_eq j s h
theorem catI_size : ∀ (l : List ByteArray), (∀ i, i < l.length → (at_ l i).size = 32) → (catI l).size = l.length * 32
  | [], _ => rfl
  | t :: l, h => by
    have h0 := h 0 (by simp)
    have ih := catI_size l (fun i hi => by have := h (i + 1) (by simp; omega); rwa [at_cons_succ] at this)
    rw [at_cons_zero] at h0
    show (t ++ catI l).size = _
    rw [app_size, List.length_cons]
    omega
theorem cat_data : ∀ (l : List ByteArray), event_content.cat l = (catI l).data.toList
  | [] => rfl
  | t :: l => by
    show t.toList ++ event_content.cat l = (t ++ catI l).data.toList
    rw [data_app, cat_data l, ByteArray.toList_eq]
theorem cont_data (kind : Int) (a : ByteArray) (ps : List ByteArray) (b : ByteArray) :
    (cont kind a ps b).data.toList = (((([event_content.u8 kind] ++ (lay a).toList) ++ [event_content.u8 ps.length]) ++ event_content.cat ps) ++ (lay b).toList) := by
  unfold cont
  simp only [data_app, cat_data, ByteArray.toList_eq]
  rfl
theorem cont_size {kind : Int} {a : ByteArray} {ps : List ByteArray} {b s : ByteArray} (h : rightB kind a ps b s = true) : (cont kind a ps b).size = 38 + ps.length * 32 + b.size := by
  obtain ⟨_, _, h3, h4, h5, _, h7⟩ := right_has h
  have := catI_size ps h7
  unfold cont
  simp only [app_size, one_size, lay_size]
  omega
theorem content_ev {kind : Int} {a : ByteArray} {ps : List ByteArray} {b s : ByteArray} (h : rightB kind a ps b s = true) (z : ByteArray) : Sha.Ev (fun k => event_content.f k kind a ps b z) (cont kind a ps b) := by
  obtain ⟨_, _, h3, h4, h5, _, h7⟩ := right_has h
  have hz := cont_size h
  unfold event_content.f
  refine Sha.Ev.bind (text_ev a (by omega)) (Sha.Ev.bind (text_ev b (by omega)) ?_)
  simp only [← cont_data, ← size_len]
  refine ifs (by omega) ?_
  exact Sha.Ev.pure _
/-- What the program's Encode answers. -/
noncomputable def encR (kind : Int) (a : ByteArray) (ps : List ByteArray) (b s : ByteArray) : ByteArray × Int :=
  if rightB kind a ps b s = true then (enc kind a ps b s, 0) else (⟨#[]⟩, 2)
theorem encode_ev (kind : Int) (a : ByteArray) (ps : List ByteArray) (b s : ByteArray) (hl : ps.length ≤ 9223372036854775807) : Sha.Ev (fun k => event_Encode.f k kind a ps b s) (encR kind a ps b s) := by
  unfold event_Encode.f encR
  refine Sha.Ev.bind (right_ev kind a ps b s hl) ?_
  cases h : rightB kind a ps b s
  · exact Sha.Ev.pure _
  · obtain ⟨_, _, h3, h4, h5, h6, h7⟩ := right_has h
    have hz := cont_size h
    refine ifs rfl (Sha.Ev.bind (text_ev s h6) (Sha.Ev.bind (content_ev h s) ?_))
    refine ifs (by rw [lay_size]; omega) ?_
    exact Sha.Ev.pure _
end Go.Proofs.YtmedpnclkbkiiaaDoor.Oct.Evt
