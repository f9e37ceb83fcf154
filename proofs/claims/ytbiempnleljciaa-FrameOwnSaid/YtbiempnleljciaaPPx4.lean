-- WRITTEN BY a program of this work (wip/ownprint.py), for this seat
import Derived.Test.YtbiempnleljciaaPPx0
import Derived.Test.YtbiempnleljciaaPPx1
import Derived.Test.YtbiempnleljciaaPPx3
namespace Go.Proofs.Ytbiempnleljciaa.PP
open Go.RowKit Go.Proofs.YtbiempnleljciaaW.PrintWords Go.Proofs.YtbiempnleljciaaW.PrintLast Go.Proofs.YtbiempnleljciaaW.PrintMore
attribute [local go_sem] max2_int min2_int max_two min_two max_three min_three max_four min_four   -- for this text's walks alone
set_option linter.unusedVariables false
set_option linter.unusedSimpArgs false

-- NOT PRINTED: function 43 (abi_NoEscape)

-- NOT PRINTED: function 36 (strings_Builder_copyCheck)

-- NOT PRINTED: function 18 (strings_Builder_WriteByte)

-- NOT PRINTED: function 21 (strings_Builder_WriteString)

-- NOT PRINTED: function 22 (strings_Builder_Len)

-- NOT PRINTED: function 23 (strings_Builder_String)

/-! ### frame_Encode: function 11 (walked by hand) -/
/-- Texts with their lengths, one behind the other. -/
def frame_Encode.texts (k : Nat) : List ByteArray → Option (List UInt8)
  | [] => some []
  | s :: l => (octets_Text.f k s).bind fun t => (frame_Encode.texts k l).bind fun r => some (t.1.toList ++ r)
def frame_Encode.cat : List ByteArray → List UInt8
  | [] => []
  | s :: l => s.toList ++ frame_Encode.cat l
def frame_Encode.u8 (x : Int) : UInt8 := UInt8.ofNat (x % 256).toNat
def frame_Encode.body (k : Nat) (a0 a1 : Int) (l2 : List ByteArray) (a3 : ByteArray) (l4 : List ByteArray) : Option (List UInt8) :=
  if a0 = 5 then (if 0 < l4.length then (octets_Text.f k (rdOf ByteArray.empty l4 0)).bind fun t => some (([frame_Encode.u8 a0] ++ [frame_Encode.u8 a1]) ++ t.1.toList) else none)
  else if a0 = 4 then (frame_Encode.texts k l4).bind fun r => some (([frame_Encode.u8 a0] ++ [frame_Encode.u8 l4.length]) ++ r)
  else if a0 = 2 then (octets_Text.f k a3).bind fun t => some ((([frame_Encode.u8 a0] ++ [frame_Encode.u8 l2.length]) ++ frame_Encode.cat l2) ++ t.1.toList)
  else some (([frame_Encode.u8 a0] ++ [frame_Encode.u8 l2.length]) ++ frame_Encode.cat l2)
def frame_Encode.f (k : Nat) (a0_0 : Int) (a0_1 : Int) (l0_2 : List ByteArray) (a0_3 : ByteArray) (l0_4 : List ByteArray) : Option (ByteArray × Int) :=
  (frame_Right.f k a0_0 a0_1 l0_2 a0_3 l0_4).bind fun t => if t = true then ((frame_Encode.body k a0_0 a0_1 l0_2 a0_3 l0_4).bind fun b => if b.length ≤ 140737488355328 then some (if 65535 < b.length then (⟨#[]⟩, 3) else (⟨b.toArray⟩, 0)) else none) else some (⟨#[]⟩, 2)
theorem frame_Encode.texts_mono : ∀ k l, LeO (frame_Encode.texts k l) (frame_Encode.texts (k + 1) l)
  | _, [] => LeO.refl _
  | k, s :: l => by
    unfold frame_Encode.texts
    exact LeO.bind (octets_Text.mono _ _) fun _ => LeO.bind (frame_Encode.texts_mono k l) fun _ => LeO.refl _
theorem frame_Encode.mono : ∀ a0_0 a0_1 l0_2 a0_3 l0_4 k, LeO (frame_Encode.f k a0_0 a0_1 l0_2 a0_3 l0_4) (frame_Encode.f (k + 1) a0_0 a0_1 l0_2 a0_3 l0_4) := by
  intro a0_0 a0_1 l0_2 a0_3 l0_4 k
  unfold frame_Encode.f frame_Encode.body
  refine LeO.bind (frame_Right.mono _ _ _ _ _ _) fun _ => LeO.ite (LeO.bind ?_ fun _ => LeO.refl _) (LeO.refl _)
  refine LeO.ite (LeO.ite (LeO.bind (octets_Text.mono _ _) fun _ => LeO.refl _) (LeO.refl _)) (LeO.ite (LeO.bind (frame_Encode.texts_mono _ _) fun _ => LeO.refl _) (LeO.ite (LeO.bind (octets_Text.mono _ _) fun _ => LeO.refl _) (LeO.refl _)))
theorem frame_Encode.u8_at (x c : Int) (h : c = x % 256) : UInt8.ofNat c.toNat = frame_Encode.u8 x := by rw [h]; rfl
theorem frame_Encode.text_calls (k : Nat) (s t : ByteArray) (ok : Bool) {w0 W : World} {b : Nat} {acc : List UInt8} (h : Bld.St w0 b acc W) (ht : octets_Text.f k s = some (t, ok)) (hl : acc.length + t.size ≤ 140737488355328) :
    Calls Try.prog 19 #[.string s, .pointer (some ⟨b, 0, none⟩)] W fun e W' => e = .returned (.tuple #[]) ∧ Bld.St w0 b (acc ++ t.toList) W' := by
  have HS := Aside0.mk h
  clear h
  have HT := Aside0.mk ht
  clear ht
  go_enter Try.func19, Try.ntmps19
  go_wp2_with (first | (go_at_call 20; (with_reducible refine (octets_Text.calls k s t ok _ HT.out).mono ?_); rintro e W1 ⟨rfl, hb⟩; have n0_ := Aside0.mk (HS.out.later hb); clear HS hb; have HS := n0_; clear n0_) | (go_at_call 21; (with_reducible refine (HS.out.str t hl).mono ?_); rintro e W2 ⟨rfl, hs⟩; have n0_ := Aside0.mk hs; clear HS hs; have HS := n0_; clear n0_))
  go_end0
  exact ⟨rfl, HS.out⟩
theorem size_toList_ (s : ByteArray) : s.toList.length = s.size := by rw [ByteArray.toList_eq, data_length]
theorem frame_Encode.drop_rd (l : List ByteArray) (x : Int) (h0 : 0 ≤ x) (h1 : x < (l.length : Int)) : l.drop x.toNat = rdOf ByteArray.empty l x :: l.drop (x + 1).toNat := by
  have hl : x.toNat < l.length := by omega
  have e : (x + 1).toNat = x.toNat + 1 := by omega
  rw [e, List.drop_eq_getElem_cons hl]
  congr 1
  simp [rdOf, List.getD, hl]
theorem frame_Encode.wrap_step {n : Nat} {x : Int} (h : (n : Nat) ≤ 9223372036854775807) (h0 : 0 ≤ x) (h1 : x < (n : Int)) : IntKind.i64.wrap (x + 1) = x + 1 := by
  rw [IntKind.wrap_i64]; omega
set_option maxHeartbeats 8000000 in
set_option maxRecDepth 100000 in
theorem frame_Encode.calls (k : Nat) (a0_0 : Int) (a0_1 : Int) (A0_2 : Option Addr) (c0_2 : Nat) (l0_2 : List ByteArray) (a0_3 : ByteArray) (A0_4 : Option Addr) (c0_4 : Nat) (l0_4 : List ByteArray) (r1 : ByteArray) (r2 : Int) (w : World) (hr0_2 : Kd.C Kd.string w A0_2 l0_2.length l0_2) (hc0_2 : l0_2.length ≤ c0_2) (hr0_4 : Kd.C Kd.string w A0_4 l0_4.length l0_4) (hc0_4 : l0_4.length ≤ c0_4) (h : frame_Encode.f k a0_0 a0_1 l0_2 a0_3 l0_4 = some (r1, r2)) :
    Calls Try.prog 11 #[.agg #[.int .i64 a0_0, .int .i64 a0_1, .slice A0_2 l0_2.length c0_2, .string a0_3, .slice A0_4 l0_4.length c0_4]] w fun e w' => e = .returned (.tuple #[.string r1, .int .i64 r2]) ∧ Below w.heap.size w w' := by
  have hmf : ∀ (fn : Fn) (first cap : Array Value) (w : World), (Instr.makeFunc fn first cap).run Try.prog w = .ok (.func fn first cap) w := fun _ _ _ _ => rfl
  have HR0_2 := Aside0.mk hr0_2
  have HR0_4 := Aside0.mk hr0_4
  have HC0_2 := Aside0.mk hc0_2
  have HC0_4 := Aside0.mk hc0_4
  clear hr0_2 hr0_4 hc0_2 hc0_4
  unfold frame_Encode.f at h
  obtain ⟨t, hR, h⟩ := Option.bind_eq_some_iff.mp h
  have HRT := Aside0.mk hR
  clear hR
  cases t with
  | false =>
    simp only [Bool.false_eq_true, if_false, Option.some.injEq, Prod.mk.injEq] at h
    obtain ⟨rfl, rfl⟩ := h
    go_enter Try.func11, Try.ntmps11
    go_wp2_with (first
      | ((with_reducible refine gate_dst (N := 1) rfl ?_); refine box_event ?hg (N := 1) ?hd (cs := #[.int .i64 a0_0, .int .i64 a0_1, .slice A0_2 l0_2.length c0_2, .string a0_3, .slice A0_4 l0_4.length c0_4]) (t := 24) ?hr ?_; (case hd => rfl); (case hg => rfl); (case hr => first | (go_simp; done) | (go_simp; rfl)); intro gb hg w1 hbox hb; have BX1 := Aside0.mk hbox; have HB1 := Aside0.mk hb; obtain ⟨hz0, hz1, hz2, hz3, hz4⟩ := Bld.five hbox; clear hbox hb hg)
      | (go_at_call 13; (with_reducible refine (frame_Right.calls k a0_0 a0_1 A0_2 c0_2 l0_2 a0_3 A0_4 c0_4 l0_4 false _ (Kd.C_below HR0_2.out HB1.out) HC0_2.out (Kd.C_below HR0_4.out HB1.out) HC0_4.out HRT.out).mono ?_); rintro e w2 ⟨rfl, hb⟩; have HB2 := Aside0.mk (below_step HB1.out hb); clear hb))
    go_ret2
    exact ⟨rfl, HB2.out⟩
  | true =>
    simp only [if_true] at h
    obtain ⟨bs, hb, h⟩ := Option.bind_eq_some_iff.mp h
    have HBODY := Aside0.mk hb
    clear hb
    have hbl : bs.length ≤ 140737488355328 := by
      by_cases hh : bs.length ≤ 140737488355328
      · exact hh
      · rw [if_neg hh] at h; cases h
    rw [if_pos hbl] at h
    have HL := Aside0.mk hbl
    obtain ⟨d, hdN, hdI, hres⟩ : ∃ d : Bool, decide (65535 < bs.length) = d ∧ decide ((65535 : Int) < (bs.length : Int)) = d ∧ (if d = true then ((⟨#[]⟩ : ByteArray), (3 : Int)) else (⟨bs.toArray⟩, 0)) = (r1, r2) := by
      refine ⟨decide (65535 < bs.length), rfl, decide_eq_decide.2 (by omega), ?_⟩
      have := Option.some.inj h
      by_cases c : 65535 < bs.length <;> simpa [c] using this
    clear h hbl
    have hb := HBODY.out
    clear HBODY
    unfold frame_Encode.body at hb
    have hn2 := HR0_2.out.2.1
    have hn4 := HR0_4.out.2.1
    by_cases h5 : a0_0 = 5
    · rw [if_pos h5] at hb
      have e5 : (a0_0 == 5) = true := beq_iff_eq.mpr h5
      have hl4 : 0 < l0_4.length := by
        by_cases hh : 0 < l0_4.length
        · exact hh
        · rw [if_neg hh] at hb; cases hb
      rw [if_pos hl4] at hb
      obtain ⟨⟨t, ok⟩, hT, hb⟩ := Option.bind_eq_some_iff.mp hb
      have HT := Aside0.mk hT
      have HBS := Aside0.mk (Option.some.inj hb)
      have HBL := Aside0.mk (show 2 + t.size = bs.length by rw [← HBS.out]; simp [size_toList_]; omega)
      clear hT hb h5
      obtain ⟨ad, e4, hx⟩ := Kd.at_string HR0_4.out 0 (by decide) (by omega)
      cases e4
      have hx : w.cell? ad = some (.string (rdOf ByteArray.empty l0_4 0)) := hx
      have HX := Aside0.mk hx
      clear hx
      have q0 : ((0 : Int) < (l0_4.length : Int)) = True := eq_true (by omega)
      cases d
      all_goals
        first | simp only [Bool.false_eq_true, if_false, Prod.mk.injEq] at hres | simp only [if_true, Prod.mk.injEq] at hres
        obtain ⟨rfl, rfl⟩ := hres
        go_enter Try.func11, Try.ntmps11
        go_wp2_with (first | ((with_reducible refine gate_dst (N := 1) rfl ?_); refine box_event ?hg (N := 1) ?hd (cs := #[.int .i64 a0_0, .int .i64 a0_1, .slice A0_2 l0_2.length c0_2, .string a0_3, .slice (some ad) l0_4.length c0_4]) (t := 24) ?hr ?_; (case hd => rfl); (case hg => rfl); (case hr => first | (go_simp; done) | (go_simp; rfl)); intro gb hg w1 hbox hb; have BX1 := Aside0.mk hbox; have HB1 := Aside0.mk hb; have GE1 := Aside0.mk (show w.heap.size ≤ gb by omega); obtain ⟨hz0, hz1, hz2, hz3, hz4⟩ := Bld.five hbox; clear hbox hb hg) | (go_at_call 13; (with_reducible refine (frame_Right.calls k a0_0 a0_1 A0_2 c0_2 l0_2 a0_3 (some ad) c0_4 l0_4 true _ (Kd.C_below HR0_2.out HB1.out) HC0_2.out (Kd.C_below HR0_4.out HB1.out) HC0_4.out HRT.out).mono ?_); rintro e w2 ⟨rfl, hb⟩; have HB2 := Aside0.mk (below_step HB1.out hb); have BX2 := Aside0.mk ((hb.block gb (blk_lt BX1.out)).trans BX1.out); clear hb) | ((with_reducible refine gate_dst (N := 4) rfl ?_); refine Kd.event_run (w1 := w2.alloc (.cells #[.pointer none, .slice none 0 0] 42)) (v := .pointer (some ⟨w2.heap.size, 0, none⟩)) ?hg ?hr ?_; (case hg => rfl); (case hr => first | (go_simp; done) | (go_simp; rfl)); have HSF := Aside0.mk (Bld.St.fresh w2); obtain ⟨b, hb_⟩ : ∃ b, b = w2.heap.size := ⟨_, rfl⟩; obtain ⟨w3, hw_⟩ : ∃ w3, w3 = w2.alloc (.cells #[.pointer none, .slice none 0 0] 42) := ⟨_, rfl⟩; rw [← hw_, ← hb_] at HSF; rw [← hw_, ← hb_]; have GB := Aside0.mk (show gb < b by rw [hb_]; exact blk_lt BX2.out); have LB := Aside0.mk (show w.heap.size ≤ b by have := GB.out; have := GE1.out; omega); have HS := HSF; clear HSF hb_ hw_; obtain ⟨hz0, hz1, hz2, hz3, hz4⟩ := Bld.five (HS.out.block BX2.out GB.out)) | (go_at_call 18; (refine (HS.out.byte _ ?s0 ?s1 ?s2).mono ?_); (case s0 => first | omega | (simp only [IntKind.wrap_u8]; omega)); (case s1 => first | omega | (simp only [IntKind.wrap_u8]; omega)); (case s2 => first | (simp; done) | (have := HL.out; have := HBL.out; simp at *; omega)); rintro e w4 ⟨rfl, hs⟩; have n0_ := Aside0.mk hs; clear HS hs; have HS := n0_; clear n0_; obtain ⟨hz0, hz1, hz2, hz3, hz4⟩ := Bld.five (HS.out.block BX2.out GB.out) ; have hx0 := ((HS.out.below HB2.out LB.out).cell (World.block_lt_of_cell? w _ HX.out)).trans HX.out) | (go_at_call 19; (refine (frame_Encode.text_calls k _ t ok HS.out HT.out ?s2).mono ?_); (case s2 => have := HL.out; have := HBL.out; simp at *; omega); rintro e w5 ⟨rfl, hs⟩; have n0_ := Aside0.mk hs; clear HS hs; have HS := n0_; clear n0_; obtain ⟨hz0, hz1, hz2, hz3, hz4⟩ := Bld.five (HS.out.block BX2.out GB.out)) | (go_at_call 22; have n0_ := Aside0.mk (HS.out.cast (show _ = bs from HBS.out)); clear HS; have HS := n0_; clear n0_; (refine HS.out.len.mono ?_); rintro e w6 ⟨rfl, rfl⟩) | (go_at_call 23; (refine HS.out.out.mono ?_); rintro e w7 ⟨rfl, hs⟩; have n0_ := Aside0.mk hs; clear HS hs; have HS := n0_; clear n0_))
        go_ret2
        exact ⟨rfl, HS.out.below HB2.out LB.out⟩
    rw [if_neg h5] at hb
    have e5 : (a0_0 == 5) = false := beq_eq_false_iff_ne.mpr h5
    by_cases h4 : a0_0 = 4
    · rw [if_pos h4] at hb
      have e4 : (a0_0 == 4) = true := beq_iff_eq.mpr h4
      obtain ⟨rest, hT, hb⟩ := Option.bind_eq_some_iff.mp hb
      have HT0 := Aside0.mk hT
      have HBS0 := Aside0.mk (Option.some.inj hb)
      have HBL := Aside0.mk (show 2 + rest.length = bs.length by rw [← HBS0.out]; simp; omega)
      clear hT hb h5 h4
      cases d
      all_goals
        first | simp only [Bool.false_eq_true, if_false, Prod.mk.injEq] at hres | simp only [if_true, Prod.mk.injEq] at hres
        obtain ⟨rfl, rfl⟩ := hres
        go_enter Try.func11, Try.ntmps11
        go_wp2_with (first | ((with_reducible refine gate_dst (N := 1) rfl ?_); refine box_event ?hg (N := 1) ?hd (cs := #[.int .i64 a0_0, .int .i64 a0_1, .slice A0_2 l0_2.length c0_2, .string a0_3, .slice A0_4 l0_4.length c0_4]) (t := 24) ?hr ?_; (case hd => rfl); (case hg => rfl); (case hr => first | (go_simp; done) | (go_simp; rfl)); intro gb hg w1 hbox hb; have BX1 := Aside0.mk hbox; have HB1 := Aside0.mk hb; have GE1 := Aside0.mk (show w.heap.size ≤ gb by omega); obtain ⟨hz0, hz1, hz2, hz3, hz4⟩ := Bld.five hbox; clear hbox hb hg) | (go_at_call 13; (with_reducible refine (frame_Right.calls k a0_0 a0_1 A0_2 c0_2 l0_2 a0_3 A0_4 c0_4 l0_4 true _ (Kd.C_below HR0_2.out HB1.out) HC0_2.out (Kd.C_below HR0_4.out HB1.out) HC0_4.out HRT.out).mono ?_); rintro e w2 ⟨rfl, hb⟩; have HB2 := Aside0.mk (below_step HB1.out hb); have BX2 := Aside0.mk ((hb.block gb (blk_lt BX1.out)).trans BX1.out); clear hb) | ((with_reducible refine gate_dst (N := 4) rfl ?_); refine Kd.event_run (w1 := w2.alloc (.cells #[.pointer none, .slice none 0 0] 42)) (v := .pointer (some ⟨w2.heap.size, 0, none⟩)) ?hg ?hr ?_; (case hg => rfl); (case hr => first | (go_simp; done) | (go_simp; rfl)); have HSF := Aside0.mk (Bld.St.fresh w2); obtain ⟨b, hb_⟩ : ∃ b, b = w2.heap.size := ⟨_, rfl⟩; obtain ⟨w3, hw_⟩ : ∃ w3, w3 = w2.alloc (.cells #[.pointer none, .slice none 0 0] 42) := ⟨_, rfl⟩; rw [← hw_, ← hb_] at HSF; rw [← hw_, ← hb_]; have GB := Aside0.mk (show gb < b by rw [hb_]; exact blk_lt BX2.out); have LB := Aside0.mk (show w.heap.size ≤ b by have := GB.out; have := GE1.out; omega); have HS := HSF; clear HSF hb_ hw_; obtain ⟨hz0, hz1, hz2, hz3, hz4⟩ := Bld.five (HS.out.block BX2.out GB.out)) | (go_at_call 18; (refine (HS.out.byte _ ?s0 ?s1 ?s2).mono ?_); (case s0 => first | omega | (simp only [IntKind.wrap_u8]; omega)); (case s1 => first | omega | (simp only [IntKind.wrap_u8]; omega)); (case s2 => first | (simp; done) | (have := HL.out; have := HBL.out; simp at *; omega)); rintro e w4 ⟨rfl, hs⟩; have n0_ := Aside0.mk hs; clear HS hs; have HS := n0_; clear n0_; obtain ⟨hz0, hz1, hz2, hz3, hz4⟩ := Bld.five (HS.out.block BX2.out GB.out) ))
        go_loopg [64] l0_4.length (fun kq v64 w' => ∃ x : Int, v64 = .int .i64 x ∧ Aside0 (0 ≤ x ∧ x + (kq : Int) = (l0_4.length : Int)) ∧ Aside0 (∃ acc rest, frame_Encode.texts k (l0_4.drop x.toNat) = some rest ∧ acc ++ rest = bs ∧ Bld.St w2 b acc w'))
        case atStart => exact ⟨0, (by first | rfl | simp), ⟨by omega⟩, ⟨_, rest, HT0.out, HBS0.out, HS.out⟩⟩
        case round =>
          clear hz0 hz1 hz2 hz3 hz4
          obtain ⟨x, rfl, HP, HE⟩ := hrel
          clear HS HBL HT0 HBS0
          obtain ⟨acc, rest1, hT, hE, hS⟩ := HE.out
          have HS := Aside0.mk hS
          have hp := HP.out
          obtain ⟨hz0, hz1, hz2, hz3, hz4⟩ := Bld.five (HS.out.block BX2.out GB.out)
          cases gk with
          | zero =>
            have hc : decide (x < (l0_4.length : Int)) = false := decide_eq_false (by omega)
            have hd : l0_4.drop x.toNat = [] := List.drop_of_length_le (by omega)
            rw [hd] at hT
            have hr0 : rest1 = [] := (Option.some.inj hT).symm
            have HBS := Aside0.mk (show acc = bs by rw [← hE, hr0, List.append_nil])
            clear hT hE hS hd hr0 HE hp HP
            go_wp2_with (first | (go_at_call 22; have n0_ := Aside0.mk (HS.out.cast (show _ = bs from HBS.out)); clear HS; have HS := n0_; clear n0_; (refine HS.out.len.mono ?_); rintro e w6 ⟨rfl, rfl⟩) | (go_at_call 23; (refine HS.out.out.mono ?_); rintro e w7 ⟨rfl, hs⟩; have n0_ := Aside0.mk hs; clear HS hs; have HS := n0_; clear n0_))
            go_ret2
            exact ⟨rfl, HS.out.below HB2.out LB.out⟩
          | succ k1 =>
            have hc : decide (x < (l0_4.length : Int)) = true := decide_eq_true (by omega)
            have p0 : (0 ≤ x) = True := eq_true (by omega)
            have q0 : (x < (l0_4.length : Int)) = True := eq_true (by omega)
            have hw1 := frame_Encode.wrap_step (n := l0_4.length) (x := x) hn4 (by omega) (by omega)
            rw [frame_Encode.drop_rd l0_4 x (by omega) (by omega)] at hT
            unfold frame_Encode.texts at hT
            obtain ⟨⟨t, ok⟩, hT1, hT⟩ := Option.bind_eq_some_iff.mp hT
            obtain ⟨rest2, hT2, hT⟩ := Option.bind_eq_some_iff.mp hT
            have hr1 : t.toList ++ rest2 = rest1 := Option.some.inj hT
            have HT := Aside0.mk hT1
            have HT2 := Aside0.mk hT2
            have HE2 := Aside0.mk (show (acc ++ t.toList) ++ rest2 = bs by rw [← hE, ← hr1, List.append_assoc])
            have HBL := Aside0.mk (show acc.length + t.size + rest2.length = bs.length by rw [← HE2.out]; simp [size_toList_]; omega)
            obtain ⟨ad, e4_, hx⟩ := Kd.at_string HR0_4.out x (by omega) (by omega)
            cases e4_
            have hx0 := ((HS.out.below HB2.out LB.out).cell (World.block_lt_of_cell? w _ hx)).trans hx
            clear hT hT1 hT2 hE hS hr1 HE hx hp
            go_wp2_with (first | (go_at_call 19; (refine (frame_Encode.text_calls k _ t ok HS.out HT.out ?s2).mono ?_); (case s2 => have := HL.out; have := HBL.out; simp at *; omega); rintro e w5 ⟨rfl, hs⟩; have n0_ := Aside0.mk hs; clear HS hs; have HS := n0_; clear n0_; obtain ⟨hz0, hz1, hz2, hz3, hz4⟩ := Bld.five (HS.out.block BX2.out GB.out)))
            go_roundg k1
            case measure => omega
            case rel => exact ⟨x + 1, (by first | rfl | (simp; done) | (simp [*]; done) | (refine congrArg (Value.int _) ?_; rw [hw1])), ⟨by have := HP.out; omega⟩, ⟨_, rest2, HT2.out, HE2.out, HS.out⟩⟩
    rw [if_neg h4] at hb
    have e4 : (a0_0 == 4) = false := beq_eq_false_iff_ne.mpr h4
    obtain ⟨tail, e2, HBS0, HF⟩ : ∃ tail, ∃ z : Bool, Aside0 (((([frame_Encode.u8 a0_0] ++ [frame_Encode.u8 l0_2.length]) ++ frame_Encode.cat l0_2) ++ tail) = bs) ∧ Aside0 ((a0_0 == 2) = z ∧ (z = true → ∃ t ok, octets_Text.f k a0_3 = some (t, ok) ∧ tail = t.toList) ∧ (z = false → tail = [])) := by
      by_cases h2 : a0_0 = 2
      · rw [if_pos h2] at hb
        obtain ⟨⟨t, ok⟩, hT, hb⟩ := Option.bind_eq_some_iff.mp hb
        exact ⟨t.toList, true, ⟨Option.some.inj hb⟩, ⟨beq_iff_eq.mpr h2, fun _ => ⟨t, ok, hT, rfl⟩, fun hh => by cases hh⟩⟩
      · rw [if_neg h2] at hb
        exact ⟨[], false, ⟨by rw [List.append_nil]; exact Option.some.inj hb⟩, ⟨beq_eq_false_iff_ne.mpr h2, fun hh => by (cases hh), fun _ => rfl⟩⟩
    have HBL := Aside0.mk (show 2 + (frame_Encode.cat l0_2).length + tail.length = bs.length by rw [← HBS0.out]; simp; omega)
    clear hb h5 h4
    cases d
    all_goals
      first | simp only [Bool.false_eq_true, if_false, Prod.mk.injEq] at hres | simp only [if_true, Prod.mk.injEq] at hres
      obtain ⟨rfl, rfl⟩ := hres
      go_enter Try.func11, Try.ntmps11
      go_wp2_with (first | ((with_reducible refine gate_dst (N := 1) rfl ?_); refine box_event ?hg (N := 1) ?hd (cs := #[.int .i64 a0_0, .int .i64 a0_1, .slice A0_2 l0_2.length c0_2, .string a0_3, .slice A0_4 l0_4.length c0_4]) (t := 24) ?hr ?_; (case hd => rfl); (case hg => rfl); (case hr => first | (go_simp; done) | (go_simp; rfl)); intro gb hg w1 hbox hb; have BX1 := Aside0.mk hbox; have HB1 := Aside0.mk hb; have GE1 := Aside0.mk (show w.heap.size ≤ gb by omega); obtain ⟨hz0, hz1, hz2, hz3, hz4⟩ := Bld.five hbox; clear hbox hb hg) | (go_at_call 13; (with_reducible refine (frame_Right.calls k a0_0 a0_1 A0_2 c0_2 l0_2 a0_3 A0_4 c0_4 l0_4 true _ (Kd.C_below HR0_2.out HB1.out) HC0_2.out (Kd.C_below HR0_4.out HB1.out) HC0_4.out HRT.out).mono ?_); rintro e w2 ⟨rfl, hb⟩; have HB2 := Aside0.mk (below_step HB1.out hb); have BX2 := Aside0.mk ((hb.block gb (blk_lt BX1.out)).trans BX1.out); clear hb) | ((with_reducible refine gate_dst (N := 4) rfl ?_); refine Kd.event_run (w1 := w2.alloc (.cells #[.pointer none, .slice none 0 0] 42)) (v := .pointer (some ⟨w2.heap.size, 0, none⟩)) ?hg ?hr ?_; (case hg => rfl); (case hr => first | (go_simp; done) | (go_simp; rfl)); have HSF := Aside0.mk (Bld.St.fresh w2); obtain ⟨b, hb_⟩ : ∃ b, b = w2.heap.size := ⟨_, rfl⟩; obtain ⟨w3, hw_⟩ : ∃ w3, w3 = w2.alloc (.cells #[.pointer none, .slice none 0 0] 42) := ⟨_, rfl⟩; rw [← hw_, ← hb_] at HSF; rw [← hw_, ← hb_]; have GB := Aside0.mk (show gb < b by rw [hb_]; exact blk_lt BX2.out); have LB := Aside0.mk (show w.heap.size ≤ b by have := GB.out; have := GE1.out; omega); have HS := HSF; clear HSF hb_ hw_; obtain ⟨hz0, hz1, hz2, hz3, hz4⟩ := Bld.five (HS.out.block BX2.out GB.out)) | (go_at_call 18; (refine (HS.out.byte _ ?s0 ?s1 ?s2).mono ?_); (case s0 => first | omega | (simp only [IntKind.wrap_u8]; omega)); (case s1 => first | omega | (simp only [IntKind.wrap_u8]; omega)); (case s2 => first | (simp; done) | (have := HL.out; have := HBL.out; simp at *; omega)); rintro e w4 ⟨rfl, hs⟩; have n0_ := Aside0.mk hs; clear HS hs; have HS := n0_; clear n0_; obtain ⟨hz0, hz1, hz2, hz3, hz4⟩ := Bld.five (HS.out.block BX2.out GB.out) ))
      go_loopg [28] l0_2.length (fun kq v28 w' => ∃ x : Int, v28 = .int .i64 x ∧ Aside0 (0 ≤ x ∧ x + (kq : Int) = (l0_2.length : Int)) ∧ Aside0 (∃ acc, acc ++ frame_Encode.cat (l0_2.drop x.toNat) ++ tail = bs ∧ Bld.St w2 b acc w'))
      case atStart => exact ⟨0, (by first | rfl | simp), ⟨by omega⟩, ⟨_, HBS0.out, HS.out⟩⟩
      case round =>
        clear hz0 hz1 hz2 hz3 hz4
        obtain ⟨x, rfl, HP, HE⟩ := hrel
        clear HS HBL HBS0
        obtain ⟨acc, hE, hS⟩ := HE.out
        have HS := Aside0.mk hS
        have hp := HP.out
        obtain ⟨hz0, hz1, hz2, hz3, hz4⟩ := Bld.five (HS.out.block BX2.out GB.out)
        cases gk with
        | zero =>
          have hc : decide (x < (l0_2.length : Int)) = false := decide_eq_false (by omega)
          have hd : l0_2.drop x.toNat = [] := List.drop_of_length_le (by omega)
          rw [hd] at hE
          have hE2 : acc ++ tail = bs := by rw [← hE]; simp [frame_Encode.cat]
          obtain ⟨hz, hz1_, hz0_⟩ := HF.out
          cases e2 with
          | false =>
            have HBS := Aside0.mk (show acc = bs by rw [← hE2, hz0_ rfl, List.append_nil])
            clear hE hE2 hS hd HE hp HP HF hz1_ hz0_
            go_wp2_with (first | (go_at_call 22; have n0_ := Aside0.mk (HS.out.cast (show _ = bs from HBS.out)); clear HS; have HS := n0_; clear n0_; (refine HS.out.len.mono ?_); rintro e w6 ⟨rfl, rfl⟩) | (go_at_call 23; (refine HS.out.out.mono ?_); rintro e w7 ⟨rfl, hs⟩; have n0_ := Aside0.mk hs; clear HS hs; have HS := n0_; clear n0_))
            go_ret2
            exact ⟨rfl, HS.out.below HB2.out LB.out⟩
          | true =>
            obtain ⟨t, ok, hT, ht⟩ := hz1_ rfl
            have HT := Aside0.mk hT
            have HBS := Aside0.mk (show acc ++ t.toList = bs by rw [← hE2, ht])
            have HBL := Aside0.mk (show acc.length + t.size = bs.length by rw [← HBS.out]; simp [size_toList_])
            clear hE hE2 hS hd HE hp HP HF hz1_ hz0_ hT ht
            go_wp2_with (first | (go_at_call 19; (refine (frame_Encode.text_calls k _ t ok HS.out HT.out ?s2).mono ?_); (case s2 => have := HL.out; have := HBL.out; simp at *; omega); rintro e w5 ⟨rfl, hs⟩; have n0_ := Aside0.mk hs; clear HS hs; have HS := n0_; clear n0_; obtain ⟨hz0, hz1, hz2, hz3, hz4⟩ := Bld.five (HS.out.block BX2.out GB.out)) | (go_at_call 22; have n0_ := Aside0.mk (HS.out.cast (show _ = bs from HBS.out)); clear HS; have HS := n0_; clear n0_; (refine HS.out.len.mono ?_); rintro e w6 ⟨rfl, rfl⟩) | (go_at_call 23; (refine HS.out.out.mono ?_); rintro e w7 ⟨rfl, hs⟩; have n0_ := Aside0.mk hs; clear HS hs; have HS := n0_; clear n0_))
            go_ret2
            exact ⟨rfl, HS.out.below HB2.out LB.out⟩
        | succ k1 =>
          have hc : decide (x < (l0_2.length : Int)) = true := decide_eq_true (by omega)
          have p0 : (0 ≤ x) = True := eq_true (by omega)
          have q0 : (x < (l0_2.length : Int)) = True := eq_true (by omega)
          have hw1 := frame_Encode.wrap_step (n := l0_2.length) (x := x) hn2 (by omega) (by omega)
          rw [frame_Encode.drop_rd l0_2 x (by omega) (by omega)] at hE
          have HE2 := Aside0.mk (show (acc ++ (rdOf ByteArray.empty l0_2 x).toList) ++ frame_Encode.cat (l0_2.drop (x + 1).toNat) ++ tail = bs by rw [← hE]; simp [frame_Encode.cat, List.append_assoc])
          have HBL := Aside0.mk (show acc.length + (rdOf ByteArray.empty l0_2 x).size + (frame_Encode.cat (l0_2.drop (x + 1).toNat)).length + tail.length = bs.length by rw [← HE2.out]; simp [size_toList_]; omega)
          obtain ⟨ad, e4_, hx⟩ := Kd.at_string HR0_2.out x (by omega) (by omega)
          cases e4_
          have hx0 := ((HS.out.below HB2.out LB.out).cell (World.block_lt_of_cell? w _ hx)).trans hx
          clear hE hS HE hx hp
          go_wp2_with (first | (go_at_call 21; (refine (HS.out.str _ ?s2).mono ?_); (case s2 => have := HL.out; have := HBL.out; simp at *; omega); rintro e w5 ⟨rfl, hs⟩; have n0_ := Aside0.mk hs; clear HS hs; have HS := n0_; clear n0_; obtain ⟨hz0, hz1, hz2, hz3, hz4⟩ := Bld.five (HS.out.block BX2.out GB.out)))
          go_roundg k1
          case measure => omega
          case rel => exact ⟨x + 1, (by first | rfl | (simp; done) | (simp [*]; done) | (refine congrArg (Value.int _) ?_; rw [hw1])), ⟨by have := HP.out; omega⟩, ⟨_, HE2.out, HS.out⟩⟩

/-! ### palaverlaw07_awake: function 10 -/
def palaverlaw07_awake.f (k : Nat)  : Option (Bool) := (frame_Encode.f k 1 0 ([] : List ByteArray) (⟨#[]⟩ : ByteArray) ([] : List ByteArray)).bind fun bt122 => ((frame_Encode.f k 5 3 ([] : List ByteArray) (⟨#[]⟩ : ByteArray) (([bt122.1] : List ByteArray))).bind fun bt127 => (if bt122.2 = 0 then (if bt122.1.toList = ([1, 0] : List UInt8) then (if bt127.2 = 0 then (some (bt127.1.toList == ([5, 3, 0, 2, 1, 0] : List UInt8))) else (some false)) else (some false)) else (some false)))
theorem palaverlaw07_awake.mono : ∀ k, LeO (palaverlaw07_awake.f k ) (palaverlaw07_awake.f (k + 1) ) := by
  intro  k
  unfold palaverlaw07_awake.f
  repeat' first
      | (with_reducible exact frame_Encode.mono _ _ _ _ _ _)
      | (with_reducible exact LeO.refl _)
      | (with_reducible exact LeO.none _)
      | (with_reducible refine LeO.ite ?_ ?_)
      | (with_reducible refine LeO.bind ?_ (fun _ => ?_))
      | exact frame_Encode.mono _ _ _ _ _ _
      | exact LeO.none _
      | refine LeO.ite ?_ ?_
      | refine LeO.bind ?_ (fun _ => ?_)
set_option maxHeartbeats 64000000 in
set_option maxRecDepth 100000 in
theorem palaverlaw07_awake.calls (k : Nat)  (r : Bool) (w : World) (h : palaverlaw07_awake.f k  = some r) :
    Calls Try.prog 10 #[] w fun e w' => e = .returned (.bool r) ∧ Below w.heap.size w w' := by
  have hu24 := Try.underlying24
  have HB := Aside0.mk (Below.refl w.heap.size w)
  have H : ((frame_Encode.f k 1 0 ([] : List ByteArray) (⟨#[]⟩ : ByteArray) ([] : List ByteArray)).bind fun bt122 => ((frame_Encode.f k 5 3 ([] : List ByteArray) (⟨#[]⟩ : ByteArray) (([bt122.1] : List ByteArray))).bind fun bt127 => (if bt122.2 = 0 then (if bt122.1.toList = ([1, 0] : List UInt8) then (if bt127.2 = 0 then (some (bt127.1.toList == ([5, 3, 0, 2, 1, 0] : List UInt8))) else (some false)) else (some false)) else (some false)))) = some r := h
  clear h
  replace H := Option.bind_eq_some_iff.mp H
  obtain ⟨⟨t122, t123⟩, A10, H⟩ := H
  replace H : ((frame_Encode.f k 5 3 ([] : List ByteArray) (⟨#[]⟩ : ByteArray) (([t122] : List ByteArray))).bind fun bt127 => (if t123 = 0 then (if t122.toList = ([1, 0] : List UInt8) then (if bt127.2 = 0 then (some (bt127.1.toList == ([5, 3, 0, 2, 1, 0] : List UInt8))) else (some false)) else (some false)) else (some false))) = some r := H
  have A1 := Aside0.mk A10
  clear A10
  obtain ⟨y124, hy124⟩ : ∃ y_ : List ByteArray, y_ = (([t122] : List ByteArray)) := ⟨_, rfl⟩
  replace H : ((frame_Encode.f k 5 3 ([] : List ByteArray) (⟨#[]⟩ : ByteArray) y124).bind fun bt127 => (if t123 = 0 then (if t122.toList = ([1, 0] : List UInt8) then (if bt127.2 = 0 then (some (bt127.1.toList == ([5, 3, 0, 2, 1, 0] : List UInt8))) else (some false)) else (some false)) else (some false))) = some r := by first | (rw [hy124]; with_reducible exact H) | (have H2_ := (Option.bind_some _ _).symm.trans H; rw [hy124]; with_reducible exact H2_) | (have H2_ := (Option.bind_some _ _).symm.trans H; with_reducible exact H2_) | with_reducible exact H | (rw [hy124]; exact H) | exact H
  have Ny124 := Aside0.mk hy124
  clear hy124
  replace H := Option.bind_eq_some_iff.mp H
  obtain ⟨⟨t127, t128⟩, A20, H⟩ := H
  replace H : (if t123 = 0 then (if t122.toList = ([1, 0] : List UInt8) then (if t128 = 0 then (some (t127.toList == ([5, 3, 0, 2, 1, 0] : List UInt8))) else (some false)) else (some false)) else (some false)) = some r := H
  have A2 := Aside0.mk A20
  clear A20
  by_cases c3 : t123 = 0
  · rw [if_pos c3] at H
    have c3b0 : (t123 == 0) = true := beq_iff_eq.mpr c3
    have c3b1 : (t123 != 0) = false := bne_eq_false_iff_eq.mpr c3
    clear c3
    by_cases c4 : t122.toList = ([1, 0] : List UInt8)
    · rw [if_pos c4] at H
      have c4b0 : (t122.toList == ([1, 0] : List UInt8)) = true := beq_iff_eq.mpr c4
      have c4b1 : (t122.toList != ([1, 0] : List UInt8)) = false := bne_eq_false_iff_eq.mpr c4
      clear c4
      by_cases c5 : t128 = 0
      · rw [if_pos c5] at H
        have c5b0 : (t128 == 0) = true := beq_iff_eq.mpr c5
        have c5b1 : (t128 != 0) = false := bne_eq_false_iff_eq.mpr c5
        clear c5
        obtain rfl := Option.some.inj H
        go_enter Try.func10, Try.ntmps10
        go_wp2_with (first | ((with_reducible refine gate_callee (f := 11) rfl ?_); refine goesL_ (some 7) rfl rfl Try.func11 (by kernel_rfl) rfl #[.agg #[.int .i64 1, .int .i64 0, .slice none 0 0, .string (⟨#[]⟩ : ByteArray), .slice none 0 0]] rfl (by (try simp only [List.map_toArray, List.map_cons, List.map_nil]); first | done | rfl | (simp only [List.length_drop, List.length_take]; rfl)) ?_; (refine (frame_Encode.calls k 1 0 _ _ ([] : List ByteArray) (⟨#[]⟩ : ByteArray) _ _ ([] : List ByteArray) t122 t123 _ ?side1 ?side2 ?side3 ?side4 A1.out).mono ?_); (case side1 => exact Kd.C_nil _ _); (case side2 => exact Nat.le_refl _); (case side3 => exact Kd.C_nil _ _); (case side4 => exact Nat.le_refl _); rintro e w6 ⟨rfl, hb⟩; refine ⟨_, rfl, ?_⟩; have n0_ := Aside0.mk (below_step (by repeat (first | (with_reducible first | exact HB.out | apply below_alloc | apply pw_below_drewN | apply below_drew1) | exact HB.out)) hb); clear HB; have HB := n0_; clear n0_; (try clear hb); (try clear hb2); (try clear hk); (try clear hi)) | ((with_reducible refine gate_dst (N := 12) rfl ?_); refine Kd.R_lit Kd.string _ 9 ?hg (N := 12) ?hd (xs := ([t122] : List ByteArray)) (inner := [.string t122]) (ok := fun _ => True) (okp := fun _ => True) ?hr ?hp (fun _ hk => hk) trivial (Below.refl _ _) (Nat.le_refl _) (by simp) ?_; (case hd => rfl); (case hg => rfl); (case hr => first | (go_simp; done) | (go_simp; rfl)); (case hp => exact (Reps.one (show Kd.M Kd.string _ _ _ t122 [.string t122] from rfl) (Reps.none _ _))); intro v125 w7 ho8 hb hg_ hnew_; clear hg_ hnew_; (first | rw [← Ny124.out] at ho8 | (simp only [Int.reduceToNat] at ho8; rw [← Ny124.out] at ho8)); have n0_ := Aside0.mk (Kd.R_lower ho8 (below_size (by repeat (first | (with_reducible first | exact HB.out | apply below_alloc | apply pw_below_drewN | apply below_drew1) | exact HB.out)))); have n1_ := Aside0.mk (below_step (by repeat (first | (with_reducible first | exact HB.out | apply below_alloc | apply pw_below_drewN | apply below_drew1) | exact HB.out)) hb); clear HB; have HO126 := n0_; have HB := n1_; clear n0_ n1_; clear hb ho8; obtain ⟨Ao9, co9, eo9⟩ := Kd.R_slice HO126.out; subst eo9) | ((with_reducible refine gate_callee (f := 11) rfl ?_); refine goesL_ (some 14) rfl rfl Try.func11 (by kernel_rfl) rfl #[.agg #[.int .i64 5, .int .i64 3, .slice none 0 0, .string (⟨#[]⟩ : ByteArray), .slice Ao9 y124.length co9]] rfl (by (try simp only [List.map_toArray, List.map_cons, List.map_nil]); first | done | rfl | (simp only [List.length_drop, List.length_take]; rfl)) ?_; (refine (frame_Encode.calls k 5 3 _ _ ([] : List ByteArray) (⟨#[]⟩ : ByteArray) _ _ y124 t127 t128 _ ?side1 ?side2 ?side3 ?side4 A2.out).mono ?_); (case side1 => exact Kd.C_nil _ _); (case side2 => exact Nat.le_refl _); (case side3 => repeat (first | exact (Kd.R_reads' HO126.out).2.2 | (with_reducible refine Kd.C_alloc ?_ _) | (with_reducible refine Kd.C_drewN ?_ _) | (with_reducible refine Kd.C_drew ?_))); (case side4 => exact (Kd.R_reads' HO126.out).2.1); rintro e w10 ⟨rfl, hb⟩; refine ⟨_, rfl, ?_⟩; have n0_ := Aside0.mk (Kd.R_below (by (with_reducible repeat (first | apply Kd.R_alloc | apply Kd.R_drewN | apply Kd.R_drew)); exact HO126.out) hb); have n1_ := Aside0.mk (below_step (by repeat (first | (with_reducible first | exact HB.out | apply below_alloc | apply pw_below_drewN | apply below_drew1) | exact HB.out)) hb); clear HO126; clear HB; have HO126 := n0_; have HB := n1_; clear n0_ n1_; (try clear hb); (try clear hb2); (try clear hk); (try clear hi)))
        go_ret
        exact ⟨by first | rfl | (simp [errW_none, errW_some] <;> rfl) | (simp [*, errW_none, errW_some] <;> rfl), by repeat (first | (with_reducible first | exact HB.out | apply below_alloc | apply pw_below_drewN | apply below_drew1) | exact HB.out)⟩
      · rw [if_neg c5] at H
        have c5b0 : (t128 == 0) = false := beq_eq_false_iff_ne.mpr c5
        have c5b1 : (t128 != 0) = true := bne_iff_ne.mpr c5
        obtain rfl := Option.some.inj H
        go_enter Try.func10, Try.ntmps10
        go_wp2_with (first | ((with_reducible refine gate_callee (f := 11) rfl ?_); refine goesL_ (some 7) rfl rfl Try.func11 (by kernel_rfl) rfl #[.agg #[.int .i64 1, .int .i64 0, .slice none 0 0, .string (⟨#[]⟩ : ByteArray), .slice none 0 0]] rfl (by (try simp only [List.map_toArray, List.map_cons, List.map_nil]); first | done | rfl | (simp only [List.length_drop, List.length_take]; rfl)) ?_; (refine (frame_Encode.calls k 1 0 _ _ ([] : List ByteArray) (⟨#[]⟩ : ByteArray) _ _ ([] : List ByteArray) t122 t123 _ ?side1 ?side2 ?side3 ?side4 A1.out).mono ?_); (case side1 => exact Kd.C_nil _ _); (case side2 => exact Nat.le_refl _); (case side3 => exact Kd.C_nil _ _); (case side4 => exact Nat.le_refl _); rintro e w11 ⟨rfl, hb⟩; refine ⟨_, rfl, ?_⟩; have n0_ := Aside0.mk (below_step (by repeat (first | (with_reducible first | exact HB.out | apply below_alloc | apply pw_below_drewN | apply below_drew1) | exact HB.out)) hb); clear HB; have HB := n0_; clear n0_; (try clear hb); (try clear hb2); (try clear hk); (try clear hi)) | ((with_reducible refine gate_dst (N := 12) rfl ?_); refine Kd.R_lit Kd.string _ 9 ?hg (N := 12) ?hd (xs := ([t122] : List ByteArray)) (inner := [.string t122]) (ok := fun _ => True) (okp := fun _ => True) ?hr ?hp (fun _ hk => hk) trivial (Below.refl _ _) (Nat.le_refl _) (by simp) ?_; (case hd => rfl); (case hg => rfl); (case hr => first | (go_simp; done) | (go_simp; rfl)); (case hp => exact (Reps.one (show Kd.M Kd.string _ _ _ t122 [.string t122] from rfl) (Reps.none _ _))); intro v125 w12 ho13 hb hg_ hnew_; clear hg_ hnew_; (first | rw [← Ny124.out] at ho13 | (simp only [Int.reduceToNat] at ho13; rw [← Ny124.out] at ho13)); have n0_ := Aside0.mk (Kd.R_lower ho13 (below_size (by repeat (first | (with_reducible first | exact HB.out | apply below_alloc | apply pw_below_drewN | apply below_drew1) | exact HB.out)))); have n1_ := Aside0.mk (below_step (by repeat (first | (with_reducible first | exact HB.out | apply below_alloc | apply pw_below_drewN | apply below_drew1) | exact HB.out)) hb); clear HB; have HO126 := n0_; have HB := n1_; clear n0_ n1_; clear hb ho13; obtain ⟨Ao14, co14, eo14⟩ := Kd.R_slice HO126.out; subst eo14) | ((with_reducible refine gate_callee (f := 11) rfl ?_); refine goesL_ (some 14) rfl rfl Try.func11 (by kernel_rfl) rfl #[.agg #[.int .i64 5, .int .i64 3, .slice none 0 0, .string (⟨#[]⟩ : ByteArray), .slice Ao14 y124.length co14]] rfl (by (try simp only [List.map_toArray, List.map_cons, List.map_nil]); first | done | rfl | (simp only [List.length_drop, List.length_take]; rfl)) ?_; (refine (frame_Encode.calls k 5 3 _ _ ([] : List ByteArray) (⟨#[]⟩ : ByteArray) _ _ y124 t127 t128 _ ?side1 ?side2 ?side3 ?side4 A2.out).mono ?_); (case side1 => exact Kd.C_nil _ _); (case side2 => exact Nat.le_refl _); (case side3 => repeat (first | exact (Kd.R_reads' HO126.out).2.2 | (with_reducible refine Kd.C_alloc ?_ _) | (with_reducible refine Kd.C_drewN ?_ _) | (with_reducible refine Kd.C_drew ?_))); (case side4 => exact (Kd.R_reads' HO126.out).2.1); rintro e w15 ⟨rfl, hb⟩; refine ⟨_, rfl, ?_⟩; have n0_ := Aside0.mk (Kd.R_below (by (with_reducible repeat (first | apply Kd.R_alloc | apply Kd.R_drewN | apply Kd.R_drew)); exact HO126.out) hb); have n1_ := Aside0.mk (below_step (by repeat (first | (with_reducible first | exact HB.out | apply below_alloc | apply pw_below_drewN | apply below_drew1) | exact HB.out)) hb); clear HO126; clear HB; have HO126 := n0_; have HB := n1_; clear n0_ n1_; (try clear hb); (try clear hb2); (try clear hk); (try clear hi)))
        go_ret
        exact ⟨by first | rfl | (simp [errW_none, errW_some] <;> rfl) | (simp [*, errW_none, errW_some] <;> rfl), by repeat (first | (with_reducible first | exact HB.out | apply below_alloc | apply pw_below_drewN | apply below_drew1) | exact HB.out)⟩
    · rw [if_neg c4] at H
      have c4b0 : (t122.toList == ([1, 0] : List UInt8)) = false := beq_eq_false_iff_ne.mpr c4
      have c4b1 : (t122.toList != ([1, 0] : List UInt8)) = true := bne_iff_ne.mpr c4
      obtain rfl := Option.some.inj H
      go_enter Try.func10, Try.ntmps10
      go_wp2_with (first | ((with_reducible refine gate_callee (f := 11) rfl ?_); refine goesL_ (some 7) rfl rfl Try.func11 (by kernel_rfl) rfl #[.agg #[.int .i64 1, .int .i64 0, .slice none 0 0, .string (⟨#[]⟩ : ByteArray), .slice none 0 0]] rfl (by (try simp only [List.map_toArray, List.map_cons, List.map_nil]); first | done | rfl | (simp only [List.length_drop, List.length_take]; rfl)) ?_; (refine (frame_Encode.calls k 1 0 _ _ ([] : List ByteArray) (⟨#[]⟩ : ByteArray) _ _ ([] : List ByteArray) t122 t123 _ ?side1 ?side2 ?side3 ?side4 A1.out).mono ?_); (case side1 => exact Kd.C_nil _ _); (case side2 => exact Nat.le_refl _); (case side3 => exact Kd.C_nil _ _); (case side4 => exact Nat.le_refl _); rintro e w16 ⟨rfl, hb⟩; refine ⟨_, rfl, ?_⟩; have n0_ := Aside0.mk (below_step (by repeat (first | (with_reducible first | exact HB.out | apply below_alloc | apply pw_below_drewN | apply below_drew1) | exact HB.out)) hb); clear HB; have HB := n0_; clear n0_; (try clear hb); (try clear hb2); (try clear hk); (try clear hi)) | ((with_reducible refine gate_dst (N := 12) rfl ?_); refine Kd.R_lit Kd.string _ 9 ?hg (N := 12) ?hd (xs := ([t122] : List ByteArray)) (inner := [.string t122]) (ok := fun _ => True) (okp := fun _ => True) ?hr ?hp (fun _ hk => hk) trivial (Below.refl _ _) (Nat.le_refl _) (by simp) ?_; (case hd => rfl); (case hg => rfl); (case hr => first | (go_simp; done) | (go_simp; rfl)); (case hp => exact (Reps.one (show Kd.M Kd.string _ _ _ t122 [.string t122] from rfl) (Reps.none _ _))); intro v125 w17 ho18 hb hg_ hnew_; clear hg_ hnew_; (first | rw [← Ny124.out] at ho18 | (simp only [Int.reduceToNat] at ho18; rw [← Ny124.out] at ho18)); have n0_ := Aside0.mk (Kd.R_lower ho18 (below_size (by repeat (first | (with_reducible first | exact HB.out | apply below_alloc | apply pw_below_drewN | apply below_drew1) | exact HB.out)))); have n1_ := Aside0.mk (below_step (by repeat (first | (with_reducible first | exact HB.out | apply below_alloc | apply pw_below_drewN | apply below_drew1) | exact HB.out)) hb); clear HB; have HO126 := n0_; have HB := n1_; clear n0_ n1_; clear hb ho18; obtain ⟨Ao19, co19, eo19⟩ := Kd.R_slice HO126.out; subst eo19) | ((with_reducible refine gate_callee (f := 11) rfl ?_); refine goesL_ (some 14) rfl rfl Try.func11 (by kernel_rfl) rfl #[.agg #[.int .i64 5, .int .i64 3, .slice none 0 0, .string (⟨#[]⟩ : ByteArray), .slice Ao19 y124.length co19]] rfl (by (try simp only [List.map_toArray, List.map_cons, List.map_nil]); first | done | rfl | (simp only [List.length_drop, List.length_take]; rfl)) ?_; (refine (frame_Encode.calls k 5 3 _ _ ([] : List ByteArray) (⟨#[]⟩ : ByteArray) _ _ y124 t127 t128 _ ?side1 ?side2 ?side3 ?side4 A2.out).mono ?_); (case side1 => exact Kd.C_nil _ _); (case side2 => exact Nat.le_refl _); (case side3 => repeat (first | exact (Kd.R_reads' HO126.out).2.2 | (with_reducible refine Kd.C_alloc ?_ _) | (with_reducible refine Kd.C_drewN ?_ _) | (with_reducible refine Kd.C_drew ?_))); (case side4 => exact (Kd.R_reads' HO126.out).2.1); rintro e w20 ⟨rfl, hb⟩; refine ⟨_, rfl, ?_⟩; have n0_ := Aside0.mk (Kd.R_below (by (with_reducible repeat (first | apply Kd.R_alloc | apply Kd.R_drewN | apply Kd.R_drew)); exact HO126.out) hb); have n1_ := Aside0.mk (below_step (by repeat (first | (with_reducible first | exact HB.out | apply below_alloc | apply pw_below_drewN | apply below_drew1) | exact HB.out)) hb); clear HO126; clear HB; have HO126 := n0_; have HB := n1_; clear n0_ n1_; (try clear hb); (try clear hb2); (try clear hk); (try clear hi)))
      go_ret
      exact ⟨by first | rfl | (simp [errW_none, errW_some] <;> rfl) | (simp [*, errW_none, errW_some] <;> rfl), by repeat (first | (with_reducible first | exact HB.out | apply below_alloc | apply pw_below_drewN | apply below_drew1) | exact HB.out)⟩
  · rw [if_neg c3] at H
    have c3b0 : (t123 == 0) = false := beq_eq_false_iff_ne.mpr c3
    have c3b1 : (t123 != 0) = true := bne_iff_ne.mpr c3
    obtain rfl := Option.some.inj H
    go_enter Try.func10, Try.ntmps10
    go_wp2_with (first | ((with_reducible refine gate_callee (f := 11) rfl ?_); refine goesL_ (some 7) rfl rfl Try.func11 (by kernel_rfl) rfl #[.agg #[.int .i64 1, .int .i64 0, .slice none 0 0, .string (⟨#[]⟩ : ByteArray), .slice none 0 0]] rfl (by (try simp only [List.map_toArray, List.map_cons, List.map_nil]); first | done | rfl | (simp only [List.length_drop, List.length_take]; rfl)) ?_; (refine (frame_Encode.calls k 1 0 _ _ ([] : List ByteArray) (⟨#[]⟩ : ByteArray) _ _ ([] : List ByteArray) t122 t123 _ ?side1 ?side2 ?side3 ?side4 A1.out).mono ?_); (case side1 => exact Kd.C_nil _ _); (case side2 => exact Nat.le_refl _); (case side3 => exact Kd.C_nil _ _); (case side4 => exact Nat.le_refl _); rintro e w21 ⟨rfl, hb⟩; refine ⟨_, rfl, ?_⟩; have n0_ := Aside0.mk (below_step (by repeat (first | (with_reducible first | exact HB.out | apply below_alloc | apply pw_below_drewN | apply below_drew1) | exact HB.out)) hb); clear HB; have HB := n0_; clear n0_; (try clear hb); (try clear hb2); (try clear hk); (try clear hi)) | ((with_reducible refine gate_dst (N := 12) rfl ?_); refine Kd.R_lit Kd.string _ 9 ?hg (N := 12) ?hd (xs := ([t122] : List ByteArray)) (inner := [.string t122]) (ok := fun _ => True) (okp := fun _ => True) ?hr ?hp (fun _ hk => hk) trivial (Below.refl _ _) (Nat.le_refl _) (by simp) ?_; (case hd => rfl); (case hg => rfl); (case hr => first | (go_simp; done) | (go_simp; rfl)); (case hp => exact (Reps.one (show Kd.M Kd.string _ _ _ t122 [.string t122] from rfl) (Reps.none _ _))); intro v125 w22 ho23 hb hg_ hnew_; clear hg_ hnew_; (first | rw [← Ny124.out] at ho23 | (simp only [Int.reduceToNat] at ho23; rw [← Ny124.out] at ho23)); have n0_ := Aside0.mk (Kd.R_lower ho23 (below_size (by repeat (first | (with_reducible first | exact HB.out | apply below_alloc | apply pw_below_drewN | apply below_drew1) | exact HB.out)))); have n1_ := Aside0.mk (below_step (by repeat (first | (with_reducible first | exact HB.out | apply below_alloc | apply pw_below_drewN | apply below_drew1) | exact HB.out)) hb); clear HB; have HO126 := n0_; have HB := n1_; clear n0_ n1_; clear hb ho23; obtain ⟨Ao24, co24, eo24⟩ := Kd.R_slice HO126.out; subst eo24) | ((with_reducible refine gate_callee (f := 11) rfl ?_); refine goesL_ (some 14) rfl rfl Try.func11 (by kernel_rfl) rfl #[.agg #[.int .i64 5, .int .i64 3, .slice none 0 0, .string (⟨#[]⟩ : ByteArray), .slice Ao24 y124.length co24]] rfl (by (try simp only [List.map_toArray, List.map_cons, List.map_nil]); first | done | rfl | (simp only [List.length_drop, List.length_take]; rfl)) ?_; (refine (frame_Encode.calls k 5 3 _ _ ([] : List ByteArray) (⟨#[]⟩ : ByteArray) _ _ y124 t127 t128 _ ?side1 ?side2 ?side3 ?side4 A2.out).mono ?_); (case side1 => exact Kd.C_nil _ _); (case side2 => exact Nat.le_refl _); (case side3 => repeat (first | exact (Kd.R_reads' HO126.out).2.2 | (with_reducible refine Kd.C_alloc ?_ _) | (with_reducible refine Kd.C_drewN ?_ _) | (with_reducible refine Kd.C_drew ?_))); (case side4 => exact (Kd.R_reads' HO126.out).2.1); rintro e w25 ⟨rfl, hb⟩; refine ⟨_, rfl, ?_⟩; have n0_ := Aside0.mk (Kd.R_below (by (with_reducible repeat (first | apply Kd.R_alloc | apply Kd.R_drewN | apply Kd.R_drew)); exact HO126.out) hb); have n1_ := Aside0.mk (below_step (by repeat (first | (with_reducible first | exact HB.out | apply below_alloc | apply pw_below_drewN | apply below_drew1) | exact HB.out)) hb); clear HO126; clear HB; have HO126 := n0_; have HB := n1_; clear n0_ n1_; (try clear hb); (try clear hb2); (try clear hk); (try clear hi)))
    go_ret
    exact ⟨by first | rfl | (simp [errW_none, errW_some] <;> rfl) | (simp [*, errW_none, errW_some] <;> rfl), by repeat (first | (with_reducible first | exact HB.out | apply below_alloc | apply pw_below_drewN | apply below_drew1) | exact HB.out)⟩

/-! ### palaverref07_ids: function 24 -/
def palaverref07_ids.l0 : Nat → List ByteArray → Int → Option (Bool)
  | 0, _, _ => none
  | k + 1, x0, x3 => if x3 < (x0.length : Int) then (if 0 ≤ x3 then (if ((rdOf ByteArray.empty x0 x3).size : Int) = 32 then (if x3 > 0 then (if 0 ≤ (wrap64 (x3 - 1)) then (if (wrap64 (x3 - 1)) < (x0.length : Int) then (if ((Op.bytesLess ((rdOf ByteArray.empty x0 (wrap64 (x3 - 1))).toList) ((rdOf ByteArray.empty x0 x3).toList)) = true) then (palaverref07_ids.l0 k x0 (wrap64 (x3 + 1))) else (some false)) else (none)) else (none)) else (palaverref07_ids.l0 k x0 (wrap64 (x3 + 1)))) else (some false)) else (none)) else (some true)
def palaverref07_ids.f (k : Nat) (l0 : List ByteArray) : Option (Bool) := if (l0.length : Int) > 64 then (some false) else (palaverref07_ids.l0 k l0 0)
theorem palaverref07_ids.mono_l : ∀ k, (∀ y0 y1, LeO (palaverref07_ids.l0 k y0 y1) (palaverref07_ids.l0 (k + 1) y0 y1))
  | 0 => fun _ _ r h => by simp [palaverref07_ids.l0] at h
  | k + 1 => by
    have ih0 := palaverref07_ids.mono_l k
    · intro y0 y1
      unfold palaverref07_ids.l0
      repeat' first
      | (with_reducible exact ih0 _ _)
      | (with_reducible exact LeO.refl _)
      | (with_reducible exact LeO.none _)
      | (with_reducible refine LeO.ite ?_ ?_)
      | (with_reducible refine LeO.bind ?_ (fun _ => ?_))
      | exact ih0 _ _
      | exact LeO.none _
      | refine LeO.ite ?_ ?_
      | refine LeO.bind ?_ (fun _ => ?_)
theorem palaverref07_ids.mono : ∀ a0 k, LeO (palaverref07_ids.f k a0) (palaverref07_ids.f (k + 1) a0) := by
  intro a0 k
  have ih0 := palaverref07_ids.mono_l k
  unfold palaverref07_ids.f
  repeat' first
      | (with_reducible exact ih0 _ _)
      | (with_reducible exact LeO.refl _)
      | (with_reducible exact LeO.none _)
      | (with_reducible refine LeO.ite ?_ ?_)
      | (with_reducible refine LeO.bind ?_ (fun _ => ?_))
      | exact ih0 _ _
      | exact LeO.none _
      | refine LeO.ite ?_ ?_
      | refine LeO.bind ?_ (fun _ => ?_)
set_option maxHeartbeats 64000000 in
set_option maxRecDepth 100000 in
theorem palaverref07_ids.calls (k : Nat) (A0 : Option Addr) (c0 : Nat) (l0 : List ByteArray) (r : Bool) (w : World) (hr0 : Kd.C Kd.string w A0 l0.length l0) (hc0 : l0.length ≤ c0) (h : palaverref07_ids.f k l0 = some r) :
    Calls Try.prog 24 #[.slice A0 l0.length c0] w fun e w' => e = .returned (.bool r) ∧ Drawn0 w w' := by
  have HR0 := Aside0.mk hr0
  have HC0 := Aside0.mk hc0
  clear hr0 hc0
  have H : (if (l0.length : Int) > 64 then (some false) else (palaverref07_ids.l0 k l0 0)) = some r := h
  clear h
  by_cases c2 : (l0.length : Int) > 64
  · rw [if_pos c2] at H
    have c2b0 : decide (64 < (l0.length : Int)) = true := decide_eq_true c2
    have c2b1 : decide (64 < l0.length) = true := decide_eq_true (by omega)
    clear c2
    obtain rfl := Option.some.inj H
    go_enter Try.func24, Try.ntmps24
    go_wp2
    repeat (go_quiet (fail); try go_wp2)
    go_ret
    exact ⟨by first | rfl | (simp; done) | (simp [*]; done) | exact congrArg Value.bool (nonempty_l _) | (refine congrArg (Value.int _) ?_; first | omega | (unfold Go.RowKit.wrap64; omega)), by repeat (first | exact Drawn0.refl _ | apply Drawn0.step)⟩
  · rw [if_neg c2] at H
    have c2b0 : decide (64 < (l0.length : Int)) = false := decide_eq_false c2
    have c2b1 : decide (64 < l0.length) = false := decide_eq_false (by omega)
    clear c2
    have H' := Aside0.mk H
    clear H
    go_enter Try.func24, Try.ntmps24
    go_wp2
    repeat (go_quiet (fail); try go_wp2)
    go_loopg [3] k (fun kq v3 w' => ∃ (x3_1 : Int), v3 = .int .i64 x3_1 ∧ Aside0 (palaverref07_ids.l0 kq l0 x3_1 = some r) ∧ Aside0 (kq ≤ k) ∧ Drawn0 w w')
    case atStart => exact ⟨(0), (by first | rfl | (simp; done) | (simp [*]; done) | exact congrArg Value.bool (nonempty_l _) | (refine congrArg (Value.int _) ?_; first | omega | (unfold Go.RowKit.wrap64; omega))), H', ⟨Nat.le_refl _⟩, by repeat (first | exact Drawn0.refl _ | apply Drawn0.step)⟩
    case round =>
      clear H'
      try clear c2
      try clear c2b0
      try clear c2b1
      try clear p2
      obtain ⟨x3_1, rfl, HA, HK1, ⟨m1, rfl⟩⟩ := hrel
      cases gk with
      | zero => exact absurd HA.out (by simp [palaverref07_ids.l0])
      | succ k1 =>
        have H := HA.out
        clear HA
        simp only [palaverref07_ids.l0] at H
        by_cases c3 : x3_1 < (l0.length : Int)
        · rw [if_pos c3] at H
          have c3b0 : decide (x3_1 < (l0.length : Int)) = true := decide_eq_true c3
          clear c3
          by_cases c4 : 0 ≤ x3_1
          · rw [if_pos c4] at H
            have c4b0 : decide (0 ≤ x3_1) = true := decide_eq_true c4
            clear c4
            by_cases c5 : ((rdOf ByteArray.empty l0 x3_1).size : Int) = 32
            · rw [if_pos c5] at H
              have c5b0 : (((rdOf ByteArray.empty l0 x3_1).size : Int) == 32) = true := beq_iff_eq.mpr c5
              have c5b1 : (((rdOf ByteArray.empty l0 x3_1).size : Int) != 32) = false := bne_eq_false_iff_eq.mpr c5
              clear c5
              by_cases c6 : x3_1 > 0
              · rw [if_pos c6] at H
                have c6b0 : decide (0 < x3_1) = true := decide_eq_true c6
                clear c6
                obtain ⟨ji7, hji7⟩ : ∃ j_ : Int, (wrap64 (x3_1 - 1)) = j_ := ⟨_, rfl⟩
                replace H : (if 0 ≤ (ji7) then (if (ji7) < (l0.length : Int) then (if ((Op.bytesLess ((rdOf ByteArray.empty l0 (ji7)).toList) ((rdOf ByteArray.empty l0 x3_1).toList)) = true) then (palaverref07_ids.l0 k1 l0 (wrap64 (x3_1 + 1))) else (some false)) else (none)) else (none)) = some r := by first | (rw [hji7] at H; exact H) | (simp only [hji7] at H ⊢; exact H)
                have hji7w : (IntKind.i64.wrap (x3_1 - 1)) = ji7 := (i64_w _).trans hji7
                by_cases c8 : 0 ≤ (ji7)
                · rw [if_pos c8] at H
                  have c8b0 : decide (0 ≤ (ji7)) = true := decide_eq_true c8
                  clear c8
                  by_cases c9 : (ji7) < (l0.length : Int)
                  · rw [if_pos c9] at H
                    have c9b0 : decide ((ji7) < (l0.length : Int)) = true := decide_eq_true c9
                    clear c9
                    by_cases c10 : ((Op.bytesLess ((rdOf ByteArray.empty l0 (ji7)).toList) ((rdOf ByteArray.empty l0 x3_1).toList)) = true)
                    · rw [if_pos c10] at H
                      have c10b0 : (Op.bytesLess ((rdOf ByteArray.empty l0 (ji7)).toList) ((rdOf ByteArray.empty l0 x3_1).toList)) = true := c10
                      clear c10
                      have H' := Aside0.mk H
                      clear H
                      have p129 : 0 ≤ (x3_1 : Int) := of_decide_eq_true (by first | (with_reducible assumption) | assumption)
                      have q129 : x3_1 < (l0.length : Int) := of_decide_eq_true (by first | (with_reducible assumption) | assumption)
                      obtain ⟨ad129, e129, hx129_0⟩ := Kd.at_string HR0.out x3_1 p129 q129
                      cases e129
                      replace p129 := eq_true p129
                      replace q129 := eq_true q129
                      have p130 : 0 ≤ (x3_1 : Int) := of_decide_eq_true (by first | (with_reducible assumption) | assumption)
                      have q130 : x3_1 < (l0.length : Int) := of_decide_eq_true (by first | (with_reducible assumption) | assumption)
                      obtain ⟨ad130, e130, hx130_0⟩ := Kd.at_string HR0.out x3_1 p130 q130
                      obtain rfl : ad129 = ad130 := (by injection e130)
                      replace p130 := eq_true p130
                      replace q130 := eq_true q130
                      have p131 : 0 ≤ ((ji7) : Int) := of_decide_eq_true (by first | (with_reducible assumption) | assumption)
                      have q131 : (ji7) < (l0.length : Int) := of_decide_eq_true (by first | (with_reducible assumption) | assumption)
                      obtain ⟨ad131, e131, hx131_0⟩ := Kd.at_string HR0.out (ji7) p131 q131
                      obtain rfl : ad129 = ad131 := (by injection e131)
                      replace p131 := eq_true p131
                      replace q131 := eq_true q131
                      go_wp2
                      repeat (go_quiet (fail); try go_wp2)
                      go_roundg k1
                      case measure => have := HK1.out; omega
                      case rel => exact ⟨(wrap64 (x3_1 + 1)), (by first | rfl | (simp; done) | (simp [*]; done) | exact congrArg Value.bool (nonempty_l _) | (refine congrArg (Value.int _) ?_; first | omega | (unfold Go.RowKit.wrap64; omega))), H', ⟨by have := HK1.out; omega⟩, by repeat (first | exact Drawn0.refl _ | apply Drawn0.step)⟩
                    · rw [if_neg c10] at H
                      have c10b0 : (Op.bytesLess ((rdOf ByteArray.empty l0 (ji7)).toList) ((rdOf ByteArray.empty l0 x3_1).toList)) = false := by simpa using c10
                      clear c10
                      obtain rfl := Option.some.inj H
                      have p129 : 0 ≤ (x3_1 : Int) := of_decide_eq_true (by first | (with_reducible assumption) | assumption)
                      have q129 : x3_1 < (l0.length : Int) := of_decide_eq_true (by first | (with_reducible assumption) | assumption)
                      obtain ⟨ad129, e129, hx129_0⟩ := Kd.at_string HR0.out x3_1 p129 q129
                      cases e129
                      replace p129 := eq_true p129
                      replace q129 := eq_true q129
                      have p130 : 0 ≤ (x3_1 : Int) := of_decide_eq_true (by first | (with_reducible assumption) | assumption)
                      have q130 : x3_1 < (l0.length : Int) := of_decide_eq_true (by first | (with_reducible assumption) | assumption)
                      obtain ⟨ad130, e130, hx130_0⟩ := Kd.at_string HR0.out x3_1 p130 q130
                      obtain rfl : ad129 = ad130 := (by injection e130)
                      replace p130 := eq_true p130
                      replace q130 := eq_true q130
                      have p131 : 0 ≤ ((ji7) : Int) := of_decide_eq_true (by first | (with_reducible assumption) | assumption)
                      have q131 : (ji7) < (l0.length : Int) := of_decide_eq_true (by first | (with_reducible assumption) | assumption)
                      obtain ⟨ad131, e131, hx131_0⟩ := Kd.at_string HR0.out (ji7) p131 q131
                      obtain rfl : ad129 = ad131 := (by injection e131)
                      replace p131 := eq_true p131
                      replace q131 := eq_true q131
                      go_wp2
                      repeat (go_quiet (fail); try go_wp2)
                      go_ret
                      exact ⟨by first | rfl | (simp; done) | (simp only [← hji7] <;> (first | rfl | simp)) | (simp [*]; done) | exact congrArg Value.bool (nonempty_l _) | (refine congrArg (Value.int _) ?_; first | omega | (unfold Go.RowKit.wrap64; omega)), by repeat (first | exact Drawn0.refl _ | apply Drawn0.step)⟩
                  · rw [if_neg c9] at H
                    exact absurd H (by simp)
                · rw [if_neg c8] at H
                  exact absurd H (by simp)
              · rw [if_neg c6] at H
                have c6b0 : decide (0 < x3_1) = false := decide_eq_false c6
                clear c6
                have H' := Aside0.mk H
                clear H
                have p129 : 0 ≤ (x3_1 : Int) := of_decide_eq_true (by first | (with_reducible assumption) | assumption)
                have q129 : x3_1 < (l0.length : Int) := of_decide_eq_true (by first | (with_reducible assumption) | assumption)
                obtain ⟨ad129, e129, hx129_0⟩ := Kd.at_string HR0.out x3_1 p129 q129
                cases e129
                replace p129 := eq_true p129
                replace q129 := eq_true q129
                go_wp2
                repeat (go_quiet (fail); try go_wp2)
                go_roundg k1
                case measure => have := HK1.out; omega
                case rel => exact ⟨(wrap64 (x3_1 + 1)), (by first | rfl | (simp; done) | (simp [*]; done) | exact congrArg Value.bool (nonempty_l _) | (refine congrArg (Value.int _) ?_; first | omega | (unfold Go.RowKit.wrap64; omega))), H', ⟨by have := HK1.out; omega⟩, by repeat (first | exact Drawn0.refl _ | apply Drawn0.step)⟩
            · rw [if_neg c5] at H
              have c5b0 : (((rdOf ByteArray.empty l0 x3_1).size : Int) == 32) = false := beq_eq_false_iff_ne.mpr c5
              have c5b1 : (((rdOf ByteArray.empty l0 x3_1).size : Int) != 32) = true := bne_iff_ne.mpr c5
              obtain rfl := Option.some.inj H
              have p129 : 0 ≤ (x3_1 : Int) := of_decide_eq_true (by first | (with_reducible assumption) | assumption)
              have q129 : x3_1 < (l0.length : Int) := of_decide_eq_true (by first | (with_reducible assumption) | assumption)
              obtain ⟨ad129, e129, hx129_0⟩ := Kd.at_string HR0.out x3_1 p129 q129
              cases e129
              replace p129 := eq_true p129
              replace q129 := eq_true q129
              go_wp2
              repeat (go_quiet (fail); try go_wp2)
              go_ret
              exact ⟨by first | rfl | (simp; done) | (simp [*]; done) | exact congrArg Value.bool (nonempty_l _) | (refine congrArg (Value.int _) ?_; first | omega | (unfold Go.RowKit.wrap64; omega)), by repeat (first | exact Drawn0.refl _ | apply Drawn0.step)⟩
          · rw [if_neg c4] at H
            exact absurd H (by simp)
        · rw [if_neg c3] at H
          have c3b0 : decide (x3_1 < (l0.length : Int)) = false := decide_eq_false c3
          clear c3
          obtain rfl := Option.some.inj H
          go_wp2
          repeat (go_quiet (fail); try go_wp2)
          go_ret
          exact ⟨by first | rfl | (simp; done) | (simp [*]; done) | exact congrArg Value.bool (nonempty_l _) | (refine congrArg (Value.int _) ?_; first | omega | (unfold Go.RowKit.wrap64; omega)), by repeat (first | exact Drawn0.refl _ | apply Drawn0.step)⟩

end Go.Proofs.Ytbiempnleljciaa.PP
