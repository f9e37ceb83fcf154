/-
  event.Sign with a key, as values; events in memory beside a key.
  Conditions: none.
-/
import Derived.Test.YtdodghifojkclaaGreatDoorKeyQ
import Derived.Test.YtdodghifojkclaaGreatDoorEvt
import Derived.Test.YtdodghifojkclaaGreatDoorPPx1
import Derived.Test.YtdodghifojkclaaGreatDoorPPx2
namespace Go.Proofs.YtdodghifojkclaaGreatDoor.KeyO
open Go.RowKit Go.Proofs.YtdodghifojkclaaGreatDoor.PP Go.Proofs.YtdodghifojkclaaGreatDoorW.PrintWords Go.Proofs.YtdodghifojkclaaGreatDoorW.PrintLast Go.Proofs.YtdodghifojkclaaGreatDoorW.PrintMore Go.Proofs.YtdodghifojkclaaGreatDoor.Oct.Evt
open Go.Proofs.YtdodghifojkclaaGreatDoor.Sha (ifs ifn)
set_option linter.unusedVariables false
set_option linter.unusedSimpArgs false
/-- What the program's Content answers. -/
noncomputable def conR (kind : Int) (a : ByteArray) (ps : List ByteArray) (b : ByteArray) : ByteArray × Int :=
  if rightB kind a ps b ⟨#[]⟩ = true then (cont kind a ps b, 0) else (⟨#[]⟩, 2)
theorem con_ev (kind : Int) (a : ByteArray) (ps : List ByteArray) (b s : ByteArray) (hl : ps.length ≤ 9223372036854775807) : Sha.Ev (fun k => Ut.f k kind a ps b s) (conR kind a ps b) := by
  unfold Ut.f conR
  refine Sha.Ev.bind (right_ev kind a ps b ⟨#[]⟩ hl) ?_
  cases h : rightB kind a ps b ⟨#[]⟩
  · exact Sha.Ev.pure _
  · exact ifs rfl (Sha.Ev.bind (content_ev h ⟨#[]⟩) (Sha.Ev.pure _))
section
variable {L : ByteArray → Int → List ByteArray} {w0 w W W1 : World} {g gb i : Nat} {s : ByteArray} {h u u1 : Int} {cs cs' : Array Value} {l : List (Nat × Array Value)}
theorem IsKey.ne (k : IsKey L w0 W g s h u) (hb : W.heap[gb]? = some (.cells cs 24 (0, 0))) : g ≠ gb := by
  obtain ⟨d, v, kb⟩ := k.kb
  exact blk_ne kb.blk hb (by decide)
/-- A key, and events in memory (the one last spoken of first), behind a world w. -/
structure EL (L : ByteArray → Int → List ByteArray) (w0 w W : World) (g : Nat) (s : ByteArray) (h u : Int) (l : List (Nat × Array Value)) : Prop where
  I : IsKey L w0 W g s h u
  B : Below w0.heap.size w0 W
  K : KeepBut w W g none
  X : ∀ p ∈ l, w.heap.size ≤ p.1 ∧ W.heap[p.1]? = some (.cells p.2 24 (0, 0))
  N : l.Pairwise fun p q => p.1 ≠ q.1
  H : w0.heap.size ≤ w.heap.size
theorem EL.below (k : EL L w0 w W g s h u l) (hb : Below W.heap.size W W1) : EL L w0 w W1 g s h u l :=
  ⟨k.I.below hb, below_step k.B hb, k.K.trans (KeepBut.of_below hb g none) (.inl rfl), fun p hp => ⟨(k.X p hp).1, blk_below (k.X p hp).2 hb⟩, k.N, k.H⟩
theorem EL.step (k : EL L w0 w W g s h u l) (hI : IsKey L w0 W1 g s h u1) (hB : Below w0.heap.size w0 W1) (hK : KeepBut W W1 g none) : EL L w0 w W1 g s h u1 l :=
  ⟨hI, hB, k.K.trans hK (.inl rfl), fun p hp => ⟨(k.X p hp).1, hK.blk (k.X p hp).2 (k.I.ne (k.X p hp).2).symm (by simp)⟩, k.N, k.H⟩
theorem EL.new (k : EL L w0 w W g s h u l) (hb : Below W.heap.size W W1) (hx : W1.heap[gb]? = some (.cells cs 24 (0, 0))) (hg : gb = W.heap.size) : EL L w0 w W1 g s h u ((gb, cs) :: l) := by
  have k1 := k.below hb
  refine ⟨k1.I, k1.B, k1.K, fun p hp => ?_, List.pairwise_cons.2 ⟨fun p hp => ?_, k1.N⟩, k1.H⟩
  · rcases List.mem_cons.1 hp with rfl | hp
    · exact ⟨by rw [hg]; exact k.K.1, hx⟩
    · exact k1.X p hp
  · have := blk_lt (k.X p hp).2
    omega
theorem IsKey.keepE (k : IsKey L w0 W g s h u) (hb : W.heap[gb]? = some (.cells cs 24 (0, 0))) (hk : KeepBut W W1 gb none) : IsKey L w0 W1 g s h u := by
  have hne := k.ne hb
  exact ⟨k.1, k.2.1, k.2.2.1, k.2.2.2.imp (fun k => k.keep hk hne) (fun ⟨v, k, r⟩ => ⟨v, k.keep hk hne, Kd.R_mono (Kd.R_keep (Kd.R_types r hb (by decide)) hk (fun _ hk => hk.2)) (fun _ hk => hk.1)⟩)⟩
theorem EL.upd (k : EL L w0 w W g s h u ((gb, cs) :: l)) (hk : KeepBut W W1 gb none) (hB : Below w0.heap.size w0 W1) (hx : W1.heap[gb]? = some (.cells cs' 24 (0, 0))) : EL L w0 w W1 g s h u ((gb, cs') :: l) := by
  have h1 := k.X _ (List.mem_cons_self ..)
  have h2 := List.pairwise_cons.1 k.N
  refine ⟨k.I.keepE h1.2 hk, hB, ⟨Nat.le_trans k.K.1 hk.1, fun i hi hg hr => (hk.2 i (Nat.lt_of_lt_of_le hi k.K.1) (by have := h1.1; omega) hr).trans (k.K.2 i hi hg hr)⟩, fun p hp => ?_, List.pairwise_cons.2 ⟨fun p hp => h2.1 p hp, h2.2⟩, k.H⟩
  rcases List.mem_cons.1 hp with rfl | hp
  · exact ⟨h1.1, hx⟩
  · have h3 := k.X p (List.mem_cons_of_mem _ hp)
    exact ⟨h3.1, hk.blk h3.2 (fun e => h2.1 p hp e.symm) (by simp)⟩
theorem EL.set (k : EL L w0 w W g s h u ((gb, cs) :: l)) (i : Nat) (x : Value) (e : cs.setIfInBounds i x = cs') : EL L w0 w (W.setCell ⟨gb, i, none⟩ x) g s h u ((gb, cs') :: l) := by
  have hx := k.X _ (List.mem_cons_self ..)
  exact k.upd ((KeepBut.refl W gb none).set_ i x) (k.B.setCell (Nat.le_trans k.H hx.1) x) (blk_put hx.2 i x e)
theorem keep_puts (W : World) (gb : Nat) (vs : List Value) : KeepBut W (W.setCells gb 0 vs) gb none := by
  obtain ⟨s1, s2, s3, s4⟩ := setCells_same gb vs 0 W
  exact ⟨by rw [s4]; exact Nat.le_refl _, fun i hi hg _ => setCells_far vs 0 i hg⟩
/-- A whole event laid into the first one's place. -/
theorem EL.put (k : EL L w0 w W g s h u ((gb, cs) :: l)) (vs : List Value) (hl : vs.length = cs.size) : EL L w0 w (W.setCells gb 0 vs) g s h u ((gb, vs.toArray) :: l) := by
  have hx := k.X _ (List.mem_cons_self ..)
  exact k.upd (keep_puts W gb vs) (store_below0 vs k.B (Nat.le_trans k.H hx.1)) (store_heap0 vs hx.2 hl)
theorem ev_store {P : Program} {o : Oper} {a : Act} {W : World} {t : TypeId} {p : Tmp} {x : Operand} {e g : Nat} {cur : Array Value} (kind : Int) (au : ByteArray) (A : Option Addr) (n c : Nat) (b s : ByteArray) (ho : o.op = .store t (.tmp p) x) (haddr : a.eval (.tmp p) = .pointer (some ⟨g, 0, none⟩)) (hx : a.eval x = .agg #[.int .i64 kind, .string au, .slice A n c, .string b, .string s])
    (ht : (P.info? t).map (·.size) = some 5) (hh : W.heap[g]? = some (.cells cur e (0, 0))) (hl : cur.size = 5) : (execOp a.eval o).run P W = .ok .skip (W.setCells g 0 [.int .i64 kind, .string au, .slice A n c, .string b, .string s]) := by
  have hs := run_store_run (P := P) (o := 0) t (.agg #[.int .i64 kind, .string au, .slice A n c, .string b, .string s]) [.int .i64 kind, .string au, .slice A n c, .string b, .string s] hh (by simp [Value.cells]) ht (by simp only [List.length_cons, List.length_nil]; omega) (by
    intro q hq
    simp only [List.mem_cons, List.not_mem_nil, or_false] at hq
    rcases hq with rfl | rfl | rfl | rfl | rfl <;> rfl)
  simp [execOp, ho, haddr, hx, hs]
/-- A row of texts over what is laid into the first event's place. -/
theorem EL.row {base : Nat} {ok : Nat → Prop} {v : Value} {xs : List ByteArray} (k : EL L w0 w W g s h u ((gb, cs) :: l)) (hk : KeepBut W W1 gb none) (r : Kd.R Kd.string 9 W base ok v xs) : Kd.R Kd.string 9 W1 base ok v xs :=
  Kd.R_mono (Kd.R_keep (Kd.R_types r (k.X _ (List.mem_cons_self ..)).2 (by decide)) hk (fun _ h => h.2)) (fun _ h => h.1)
theorem EL.swap {p q : Nat × Array Value} (k : EL L w0 w W g s h u (p :: q :: l)) : EL L w0 w W g s h u (q :: p :: l) :=
  ⟨k.I, k.B, k.K, fun x hx => k.X x (by simp only [List.mem_cons] at hx ⊢; rcases hx with e | e | e <;> simp [e]), by
    have := k.N
    simp only [List.pairwise_cons, List.mem_cons] at this ⊢
    exact ⟨fun x hx => hx.elim (fun e => e ▸ (this.1 q (.inl rfl)).symm) (fun e => this.2.1 x e), fun x hx => this.1 x (.inr hx), this.2.2⟩, k.H⟩
theorem EL.drewN (k : EL L w0 w W g s h u l) (n : Nat) : EL L w0 w (W.drewN n) g s h u l := ⟨k.I.drewN n, by first | exact pw_below_drewN k.B n | exact pw_below_drewN k.B, k.K, k.X, k.N, k.H⟩
theorem EL.drew (k : EL L w0 w W g s h u l) : EL L w0 w W.drew g s h u l := ⟨k.I.drew, k.B.drew, k.K, k.X, k.N, k.H⟩
theorem EL.c1 {p : Nat × Array Value} (k : EL L w0 w W g s h u (p :: l)) : W.heap[p.1]? = some (.cells p.2 24 (0, 0)) := (k.X p (List.mem_cons_self ..)).2
theorem EL.c2 {p q : Nat × Array Value} (k : EL L w0 w W g s h u (p :: q :: l)) : W.heap[q.1]? = some (.cells q.2 24 (0, 0)) := k.swap.c1
theorem EL.c3 {p q r : Nat × Array Value} (k : EL L w0 w W g s h u (p :: q :: r :: l)) : W.heap[r.1]? = some (.cells r.2 24 (0, 0)) := (k.X r (by simp)).2
theorem EL.ne2 {p q : Nat × Array Value} (k : EL L w0 w W g s h u (p :: q :: l)) : p.1 ≠ q.1 := (List.pairwise_cons.1 k.N).1 q (List.mem_cons_self ..)
end
set_option maxRecDepth 100000 in
set_option maxHeartbeats 6400000 in
theorem esign_ok (g : Nat) (sd : ByteArray) (h u : Int) (kind : Int) (a : ByteArray) (A : Option Addr) (c : Nat) (ps : List ByteArray) (b s : ByteArray) (w0 w : World) (hI : IsKey (lv pub) w0 w g sd h u) (hB : Below w0.heap.size w0 w) (hs : sd.size ≤ 300) (hrG : Keys w0) (hr : Kd.C Kd.string w0 A ps.length ps) (hc : ps.length ≤ c) (u0 : 0 ≤ u) (u1 : u < two h) (hR : rightB kind (pubK sd h) ps b ⟨#[]⟩ = true) :
    Calls Tryz.prog 8 #[.agg #[.int .i64 kind, .string a, .slice A ps.length c, .string b, .string s], .pointer (some ⟨g, 0, none⟩)] w fun e w' => ∃ v, e = .returned (.tuple #[.agg #[.int .i64 kind, .string (pubK sd h), v, .string b, .string (sigK sd h u (cont kind (pubK sd h) ps b))], .int .i64 0]) ∧ Kd.R Kd.string 9 w' w.heap.size (fun _ => True) v ps ∧ IsKey (lv pub) w0 w' g sd h (u + 1) ∧ Below w0.heap.size w0 w' ∧ KeepBut w w' g none := by
  obtain ⟨P, hP⟩ : ∃ P, pubK sd h = P := ⟨_, rfl⟩
  rw [hP] at hR
  have HP := Aside0.mk hP
  have hl := hr.2.1
  obtain ⟨k1, hC⟩ := (con_ev kind P ps b s hl).get
  obtain ⟨r1, r2, hq⟩ : ∃ r1 r2, conR kind P ps b = (r1, r2) := ⟨_, _, rfl⟩
  rw [hq] at hC
  unfold conR at hq
  rw [if_pos hR] at hq
  obtain ⟨rfl, rfl⟩ := Prod.mk.inj hq
  rw [hP]
  have hz := cont_size hR
  obtain ⟨_, _, _, n8, n2, _, _⟩ := right_has hR
  obtain ⟨S, hS⟩ : ∃ S, sigK sd h u (cont kind P ps b) = S := ⟨_, rfl⟩
  rw [hS]
  obtain ⟨m, hm⟩ : ∃ m, cont kind P ps b = m := ⟨_, rfl⟩
  rw [hm] at hC hS hz
  have HSG := Aside0.mk hS
  have HM := Aside0.mk (show m.size ≤ 2000 by omega)
  have HN := Aside0.mk (show ps.length ≤ 8 from n8)
  have HU := Aside0.mk (And.intro u0 u1)
  have E0 := Aside0.mk (show EL (lv pub) w0 w w g sd h u [] from ⟨hI, hB, KeepBut.refl _ _ _, fun p hp => (List.not_mem_nil hp).elim, List.Pairwise.nil, hB.size⟩)
  have HS := Aside0.mk hs
  have HRG := Aside0.mk hrG
  have HR := Aside0.mk hr
  have HL := Aside0.mk hc
  have HC := Aside0.mk hC
  clear hI hB hs hrG hr hc hl hC hP hS hm hz hR n8 n2 u0 u1 hq
  go_enter Tryz.func8, Tryz.ntmps8
  go_wp2_with (first
    | ((with_reducible refine gate_dst (N := 2) rfl ?_); refine box_event ?hg (N := 2) ?hd (cs := #[.int .i64 kind, .string a, .slice A ps.length c, .string b, .string s]) (t := 24) ?hr ?_; (case hd => rfl); (case hg => rfl); (case hr => exact gr_); intro gb hg w1 hbox hb; have E := Aside0.mk (E0.out.new hb hbox hg); clear hg hbox hb)
    | ((with_reducible refine gate_dst (N := 4) rfl ?_); refine box_event ?hg (N := 4) ?hd (cs := #[.int .i64 0, .string (⟨#[]⟩ : ByteArray), .slice none 0 0, .string (⟨#[]⟩ : ByteArray), .string (⟨#[]⟩ : ByteArray)]) (t := 24) ?hr ?_; (case hd => rfl); (case hg => rfl); (case hr => exact gr_); intro gz hg w2 hbox hb; replace E := Aside0.mk (E.out.new hb hbox hg); clear hg hbox hb; obtain ⟨hx0, hx1, hx2, hx3, hx4⟩ := c5_ E.out.c2; obtain ⟨fx0, fx1, fx2, fx3, fx4⟩ := f5_ E.out.c2; obtain ⟨hz0, hz1, hz2, hz3, hz4⟩ := c5_ E.out.c1; obtain ⟨fz0, fz1, fz2, fz3, fz4⟩ := f5_ E.out.c1)
    | (go_at_call 23; refine (public_ g sd h u w0 _ E.out.I E.out.B HS.out HRG.out).mono ?_; rintro e w3 ⟨rfl, hI, hB, hK⟩; rw [HP.out]; clear hx0 hx1 hx2 hx3 hx4 fx0 fx1 fx2 fx3 fx4 hz0 hz1 hz2 hz3 hz4 fz0 fz1 fz2 fz3 fz4; replace E := Aside0.mk (E.out.step hI hB hK); clear hI hB hK; obtain ⟨hx0, hx1, hx2, hx3, hx4⟩ := c5_ E.out.c2; obtain ⟨fx0, fx1, fx2, fx3, fx4⟩ := f5_ E.out.c2; obtain ⟨hz0, hz1, hz2, hz3, hz4⟩ := c5_ E.out.c1; obtain ⟨fz0, fz1, fz2, fz3, fz4⟩ := f5_ E.out.c1)
    | ((with_reducible refine gate_callee (f := 24) rfl ?_); refine gL_ 16 Tryz.func24 #[.agg #[.int .i64 kind, .string P, .slice A ps.length c, .string b, .string s]] ?_; (with_reducible refine (Ut.calls k1 kind P A c ps b s m 0 _ ?s1 HL.out HC.out).mono ?_); (case s1 => exact Kd.C_below HR.out (E.out.swap.set 1 (.string P) rfl).B); rintro e w4 ⟨rfl, hb⟩; refine ⟨_, rfl, ?_⟩; clear hx0 hx1 hx2 hx3 hx4 fx0 fx1 fx2 fx3 fx4 hz0 hz1 hz2 hz3 hz4 fz0 fz1 fz2 fz3 fz4; replace E := Aside0.mk (show EL (lv pub) w0 w w4 g sd h u [(gz, #[.int .i64 0, .string (⟨#[]⟩ : ByteArray), .slice none 0 0, .string (⟨#[]⟩ : ByteArray), .string (⟨#[]⟩ : ByteArray)]), (gb, #[.int .i64 kind, .string P, .slice A ps.length c, .string b, .string s])] from ((E.out.swap.set 1 (.string P) rfl).below hb).swap); clear hb; obtain ⟨hx0, hx1, hx2, hx3, hx4⟩ := c5_ E.out.c2; obtain ⟨fx0, fx1, fx2, fx3, fx4⟩ := f5_ E.out.c2; obtain ⟨hz0, hz1, hz2, hz3, hz4⟩ := c5_ E.out.c1; obtain ⟨fz0, fz1, fz2, fz3, fz4⟩ := f5_ E.out.c1)
    | (go_at_call 25; refine (sign_ok g sd h u _ w0 _ E.out.I E.out.B HS.out HM.out HRG.out HU.out.1 HU.out.2).mono ?_; rintro e w5 ⟨rfl, hI, hB, hK⟩; rw [HSG.out]; clear hx0 hx1 hx2 hx3 hx4 fx0 fx1 fx2 fx3 fx4 hz0 hz1 hz2 hz3 hz4 fz0 fz1 fz2 fz3 fz4; replace E := Aside0.mk (E.out.step hI hB hK); clear hI hB hK; obtain ⟨hx0, hx1, hx2, hx3, hx4⟩ := c5_ E.out.c2; obtain ⟨fx0, fx1, fx2, fx3, fx4⟩ := f5_ E.out.c2; obtain ⟨hz0, hz1, hz2, hz3, hz4⟩ := c5_ E.out.c1; obtain ⟨fz0, fz1, fz2, fz3, fz4⟩ := f5_ E.out.c1)
    | ((with_reducible refine gate_builtin (b := .append) (xs := #[.const (.slice none 0 0), .tmp 33]) rfl ?_); at_builtin; refine Kd.R_append_rows Kd.string (w0 := w5.setCell ⟨gb, 4, none⟩ (.string S)) (w5.setCell ⟨gb, 4, none⟩ (.string S)).heap.size rfl (.const (.slice none 0 0)) (.tmp 33) 22 9 (.string ⟨#[]⟩) 16 rfl Tryz.underlying22 info9 rfl (by decide) (by omega) (.slice none 0 0) [] ps A ps.length c (fun _ => True) (fun _ => False) rfl rfl ?aO ?aR (fun _ _ h => h) (fun _ h => h.elim) ?aF ?aB ?aS ?aL ?_; (case aO => exact Kd.R_nil _ _ _ _ _); (case aR => exact Kd.C_below HR.out (E.out.swap.set 4 (.string S) rfl).B); (case aF => exact fun _ _ => trivial); (case aB => exact Below.refl _ _); (case aS => exact Nat.le_refl _); (case aL => have := HN.out; simp only [List.length_nil]; omega); intro v w6 ho hb hg hat; clear hg hat; have HV := Aside0.mk (show Kd.R Kd.string 9 w6 w.heap.size (fun _ => True) v ps from Kd.R_lower ho (E.out.swap.set 4 (.string S) rfl).K.1); obtain ⟨Av, cv, ev⟩ := Kd.R_slice HV.out; subst ev; clear hx0 hx1 hx2 hx3 hx4 fx0 fx1 fx2 fx3 fx4 hz0 hz1 hz2 hz3 hz4 fz0 fz1 fz2 fz3 fz4; replace E := Aside0.mk (show EL (lv pub) w0 w w6 g sd h (u + 1) [(gz, #[.int .i64 0, .string (⟨#[]⟩ : ByteArray), .slice none 0 0, .string (⟨#[]⟩ : ByteArray), .string (⟨#[]⟩ : ByteArray)]), (gb, #[.int .i64 kind, .string P, .slice A ps.length c, .string b, .string S])] from ((E.out.swap.set 4 (.string S) rfl).below hb).swap); clear ho hb; obtain ⟨hx0, hx1, hx2, hx3, hx4⟩ := c5_ E.out.c2; obtain ⟨fx0, fx1, fx2, fx3, fx4⟩ := f5_ E.out.c2; obtain ⟨hz0, hz1, hz2, hz3, hz4⟩ := c5_ E.out.c1; obtain ⟨fz0, fz1, fz2, fz3, fz4⟩ := f5_ E.out.c1)
    | ((with_reducible refine gate_store (t := 24) (p := 4) rfl ?_); refine store_event (t := 24) (p := 4) (v := ?vo) (w1 := (w6.setCell ⟨gb, 2, none⟩ (.slice Av ps.length cv)).setCells gz 0 [.int .i64 kind, .string P, .slice Av ps.length cv, .string b, .string S]) ?hg ?ho ?hn ?hr ?_; (case ho => rfl); (case hg => rfl); (case hn => rfl); (case hr => exact ev_store kind P Av ps.length cv b S rfl rfl rfl (by kernel_rfl) ((E.out.swap.set 2 (.slice Av ps.length cv) rfl).swap).c1 rfl); intro w7 hw; clear hx0 hx1 hx2 hx3 hx4 fx0 fx1 fx2 fx3 fx4 hz0 hz1 hz2 hz3 hz4 fz0 fz1 fz2 fz3 fz4; replace HV := Aside0.mk (show Kd.R Kd.string 9 w7 w.heap.size (fun _ => True) (.slice Av ps.length cv) ps from by rw [hw]; exact (E.out.swap.set 2 (.slice Av ps.length cv) rfl).swap.row (keep_puts _ gz _) (E.out.swap.row ((KeepBut.refl w6 gb none).set_ 2 (.slice Av ps.length cv)) HV.out)); replace E := Aside0.mk (show EL (lv pub) w0 w w7 g sd h (u + 1) [(gz, #[.int .i64 kind, .string P, .slice Av ps.length cv, .string b, .string S]), (gb, #[.int .i64 kind, .string P, .slice Av ps.length cv, .string b, .string S])] from by rw [hw]; exact ((E.out.swap.set 2 (.slice Av ps.length cv) rfl).swap).put _ rfl); clear hw))
  refine bodyPost_ret (results_ct rfl _ _ gz 24 #[.int .i64 kind, .string P, .slice Av ps.length cv, .string b, .string S] (0, 0) _ rfl (by (with_reducible repeat (first | refine blk_drewN ?_ _ | refine blk_drew ?_ | refine blk_alloc ?_ _)); exact (E.out).c1) Tryz.underlying24 rfl (by kernel_rfl)) rfl ?_
  have F := E.out
  exact ⟨_, rfl, HV.out, F.I, F.B, F.K⟩
set_option maxRecDepth 100000 in
set_option maxHeartbeats 6400000 in
theorem esign_form (g : Nat) (sd : ByteArray) (h u : Int) (kind : Int) (a : ByteArray) (A : Option Addr) (c : Nat) (ps : List ByteArray) (b s : ByteArray) (w0 w : World) (hI : IsKey (lv pub) w0 w g sd h u) (hB : Below w0.heap.size w0 w) (hs : sd.size ≤ 300) (hrG : Keys w0) (hr : Kd.C Kd.string w0 A ps.length ps) (hc : ps.length ≤ c) (hR : rightB kind (pubK sd h) ps b ⟨#[]⟩ = false) :
    Calls Tryz.prog 8 #[.agg #[.int .i64 kind, .string a, .slice A ps.length c, .string b, .string s], .pointer (some ⟨g, 0, none⟩)] w fun e w' => e = .returned (.tuple #[.agg #[.int .i64 0, .string (⟨#[]⟩ : ByteArray), .slice none 0 0, .string (⟨#[]⟩ : ByteArray), .string (⟨#[]⟩ : ByteArray)], .int .i64 2]) ∧ IsKey (lv pub) w0 w' g sd h u ∧ Below w0.heap.size w0 w' ∧ KeepBut w w' g none := by
  obtain ⟨P, hP⟩ : ∃ P, pubK sd h = P := ⟨_, rfl⟩
  rw [hP] at hR
  have HP := Aside0.mk hP
  have hl := hr.2.1
  obtain ⟨k1, hC⟩ := (con_ev kind P ps b s hl).get
  obtain ⟨r1, r2, hq⟩ : ∃ r1 r2, conR kind P ps b = (r1, r2) := ⟨_, _, rfl⟩
  rw [hq] at hC
  unfold conR at hq
  rw [if_neg (by rw [hR]; decide)] at hq
  obtain ⟨rfl, rfl⟩ := Prod.mk.inj hq
  have E0 := Aside0.mk (show EL (lv pub) w0 w w g sd h u [] from ⟨hI, hB, KeepBut.refl _ _ _, fun p hp => (List.not_mem_nil hp).elim, List.Pairwise.nil, hB.size⟩)
  have HS := Aside0.mk hs
  have HRG := Aside0.mk hrG
  have HR := Aside0.mk hr
  have HL := Aside0.mk hc
  have HC := Aside0.mk hC
  clear hI hB hs hrG hr hc hl hC hP hR hq
  go_enter Tryz.func8, Tryz.ntmps8
  go_wp2_with (first
    | ((with_reducible refine gate_dst (N := 2) rfl ?_); refine box_event ?hg (N := 2) ?hd (cs := #[.int .i64 kind, .string a, .slice A ps.length c, .string b, .string s]) (t := 24) ?hr ?_; (case hd => rfl); (case hg => rfl); (case hr => exact gr_); intro gb hg w1 hbox hb; have E := Aside0.mk (E0.out.new hb hbox hg); clear hg hbox hb)
    | ((with_reducible refine gate_dst (N := 4) rfl ?_); refine box_event ?hg (N := 4) ?hd (cs := #[.int .i64 0, .string (⟨#[]⟩ : ByteArray), .slice none 0 0, .string (⟨#[]⟩ : ByteArray), .string (⟨#[]⟩ : ByteArray)]) (t := 24) ?hr ?_; (case hd => rfl); (case hg => rfl); (case hr => exact gr_); intro gz hg w2 hbox hb; replace E := Aside0.mk (E.out.new hb hbox hg); clear hg hbox hb; obtain ⟨hx0, hx1, hx2, hx3, hx4⟩ := c5_ E.out.c2; obtain ⟨fx0, fx1, fx2, fx3, fx4⟩ := f5_ E.out.c2; obtain ⟨hz0, hz1, hz2, hz3, hz4⟩ := c5_ E.out.c1; obtain ⟨fz0, fz1, fz2, fz3, fz4⟩ := f5_ E.out.c1)
    | (go_at_call 23; refine (public_ g sd h u w0 _ E.out.I E.out.B HS.out HRG.out).mono ?_; rintro e w3 ⟨rfl, hI, hB, hK⟩; rw [HP.out]; clear hx0 hx1 hx2 hx3 hx4 fx0 fx1 fx2 fx3 fx4 hz0 hz1 hz2 hz3 hz4 fz0 fz1 fz2 fz3 fz4; replace E := Aside0.mk (E.out.step hI hB hK); clear hI hB hK; obtain ⟨hx0, hx1, hx2, hx3, hx4⟩ := c5_ E.out.c2; obtain ⟨fx0, fx1, fx2, fx3, fx4⟩ := f5_ E.out.c2; obtain ⟨hz0, hz1, hz2, hz3, hz4⟩ := c5_ E.out.c1; obtain ⟨fz0, fz1, fz2, fz3, fz4⟩ := f5_ E.out.c1)
    | ((with_reducible refine gate_callee (f := 24) rfl ?_); refine gL_ 16 Tryz.func24 #[.agg #[.int .i64 kind, .string P, .slice A ps.length c, .string b, .string s]] ?_; (with_reducible refine (Ut.calls k1 kind P A c ps b s ⟨#[]⟩ 2 _ ?s1 HL.out HC.out).mono ?_); (case s1 => exact Kd.C_below HR.out (E.out.swap.set 1 (.string P) rfl).B); rintro e w4 ⟨rfl, hb⟩; refine ⟨_, rfl, ?_⟩; clear hx0 hx1 hx2 hx3 hx4 fx0 fx1 fx2 fx3 fx4 hz0 hz1 hz2 hz3 hz4 fz0 fz1 fz2 fz3 fz4; replace E := Aside0.mk (show EL (lv pub) w0 w w4 g sd h u [(gz, #[.int .i64 0, .string (⟨#[]⟩ : ByteArray), .slice none 0 0, .string (⟨#[]⟩ : ByteArray), .string (⟨#[]⟩ : ByteArray)]), (gb, #[.int .i64 kind, .string P, .slice A ps.length c, .string b, .string s])] from ((E.out.swap.set 1 (.string P) rfl).below hb).swap); clear hb; obtain ⟨hx0, hx1, hx2, hx3, hx4⟩ := c5_ E.out.c2; obtain ⟨fx0, fx1, fx2, fx3, fx4⟩ := f5_ E.out.c2; obtain ⟨hz0, hz1, hz2, hz3, hz4⟩ := c5_ E.out.c1; obtain ⟨fz0, fz1, fz2, fz3, fz4⟩ := f5_ E.out.c1)
    | ((with_reducible refine gate_store (t := 24) (p := 4) rfl ?_); refine store_event (t := 24) (p := 4) (v := ?vo) (w1 := w4.setCells gz 0 [.int .i64 0, .string ⟨#[]⟩, .slice none 0 0, .string ⟨#[]⟩, .string ⟨#[]⟩]) ?hg ?ho ?hn ?hr ?_; (case ho => rfl); (case hg => rfl); (case hn => rfl); (case hr => exact ev_store 0 ⟨#[]⟩ none 0 0 ⟨#[]⟩ ⟨#[]⟩ rfl rfl rfl (by kernel_rfl) (E.out).c1 rfl); intro w7 hw; clear hx0 hx1 hx2 hx3 hx4 fx0 fx1 fx2 fx3 fx4 hz0 hz1 hz2 hz3 hz4 fz0 fz1 fz2 fz3 fz4; replace E := Aside0.mk (show EL (lv pub) w0 w w7 g sd h u [(gz, #[.int .i64 0, .string (⟨#[]⟩ : ByteArray), .slice none 0 0, .string (⟨#[]⟩ : ByteArray), .string (⟨#[]⟩ : ByteArray)]), (gb, #[.int .i64 kind, .string P, .slice A ps.length c, .string b, .string s])] from by rw [hw]; exact (E.out).put _ rfl); clear hw))
  refine bodyPost_ret (results_ct rfl _ _ gz 24 #[.int .i64 0, .string (⟨#[]⟩ : ByteArray), .slice none 0 0, .string (⟨#[]⟩ : ByteArray), .string (⟨#[]⟩ : ByteArray)] (0, 0) _ rfl (by (with_reducible repeat (first | refine blk_drewN ?_ _ | refine blk_drew ?_ | refine blk_alloc ?_ _)); exact (E.out).c1) Tryz.underlying24 rfl (by kernel_rfl)) rfl ?_
  have F := E.out
  exact ⟨rfl, F.I, F.B, F.K⟩
end Go.Proofs.YtdodghifojkclaaGreatDoor.KeyO
