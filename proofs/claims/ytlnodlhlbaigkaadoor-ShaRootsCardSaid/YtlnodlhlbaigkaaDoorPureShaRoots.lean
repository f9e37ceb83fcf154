/-
  ShaRoots: each word by which the document's digests are made is the root of a prime, and by these the program's digest of any one byte is the document's.
  Conditions: none of our own (what is read takes at most the model's reach; the program's table reads as its text lays it: the card's tie).
-/
import Derived.Test.YtlnodlhlbaigkaaDoorStShaRoots
import Derived.Test.YtlnodlhlbaigkaaDoorSha5
import Derived.Test.YtlnodlhlbaigkaaDoorShaKey1
import Derived.Test.YtlnodlhlbaigkaaDoorShaKey2
import Derived.Test.YtlnodlhlbaigkaaDoorShaKey3
import Derived.Test.YtlnodlhlbaigkaaDoorShaKey4
namespace Go.Proofs.YtlnodlhlbaigkaaDoor.Pure
open Go.RowKit Go.Proofs.YtlnodlhlbaigkaaDoor.PP Go.Proofs.YtlnodlhlbaigkaaDoorW.PrintWords Go.Proofs.YtlnodlhlbaigkaaDoorW.PrintLast Go.Proofs.YtlnodlhlbaigkaaDoorW.PrintMore Go.Proofs.YtlnodlhlbaigkaaDoor.Sha
set_option linter.unusedSimpArgs false
set_option linter.unusedVariables false

def tableL : List Int := [1116352408, 1899447441, 3049323471, 3921009573, 961987163, 1508970993, 2453635748, 2870763221, 3624381080, 310598401, 607225278, 1426881987, 1925078388, 2162078206, 2614888103, 3248222580, 3835390401, 4022224774, 264347078, 604807628, 770255983, 1249150122, 1555081692, 1996064986, 2554220882, 2821834349, 2952996808, 3210313671, 3336571891, 3584528711, 113926993, 338241895, 666307205, 773529912, 1294757372, 1396182291, 1695183700, 1986661051, 2177026350, 2456956037, 2730485921, 2820302411, 3259730800, 3345764771, 3516065817, 3600352804, 4094571909, 275423344, 430227734, 506948616, 659060556, 883997877, 958139571, 1322822218, 1537002063, 1747873779, 1955562222, 2024104815, 2227730452, 2361852424, 2428436474, 2756734187, 3204031479, 3329325298]
theorem key_all (i : Nat) (h : i < 64) : palaverref02_Key.f 450 (i : Int) = some (rd tableL (i : Int)) := by
  match i, h with
  | 0, _ => exact key_0
  | 1, _ => exact key_1
  | 2, _ => exact key_2
  | 3, _ => exact key_3
  | 4, _ => exact key_4
  | 5, _ => exact key_5
  | 6, _ => exact key_6
  | 7, _ => exact key_7
  | 8, _ => exact key_8
  | 9, _ => exact key_9
  | 10, _ => exact key_10
  | 11, _ => exact key_11
  | 12, _ => exact key_12
  | 13, _ => exact key_13
  | 14, _ => exact key_14
  | 15, _ => exact key_15
  | 16, _ => exact key_16
  | 17, _ => exact key_17
  | 18, _ => exact key_18
  | 19, _ => exact key_19
  | 20, _ => exact key_20
  | 21, _ => exact key_21
  | 22, _ => exact key_22
  | 23, _ => exact key_23
  | 24, _ => exact key_24
  | 25, _ => exact key_25
  | 26, _ => exact key_26
  | 27, _ => exact key_27
  | 28, _ => exact key_28
  | 29, _ => exact key_29
  | 30, _ => exact key_30
  | 31, _ => exact key_31
  | 32, _ => exact key_32
  | 33, _ => exact key_33
  | 34, _ => exact key_34
  | 35, _ => exact key_35
  | 36, _ => exact key_36
  | 37, _ => exact key_37
  | 38, _ => exact key_38
  | 39, _ => exact key_39
  | 40, _ => exact key_40
  | 41, _ => exact key_41
  | 42, _ => exact key_42
  | 43, _ => exact key_43
  | 44, _ => exact key_44
  | 45, _ => exact key_45
  | 46, _ => exact key_46
  | 47, _ => exact key_47
  | 48, _ => exact key_48
  | 49, _ => exact key_49
  | 50, _ => exact key_50
  | 51, _ => exact key_51
  | 52, _ => exact key_52
  | 53, _ => exact key_53
  | 54, _ => exact key_54
  | 55, _ => exact key_55
  | 56, _ => exact key_56
  | 57, _ => exact key_57
  | 58, _ => exact key_58
  | 59, _ => exact key_59
  | 60, _ => exact key_60
  | 61, _ => exact key_61
  | 62, _ => exact key_62
  | 63, _ => exact key_63
  | n + 64, h => omega
theorem start_all (i : Nat) (h : i < 8) : palaverref02_Start.f 450 (i : Int) = some (rd Sha.start (i : Int)) := by
  match i, h with
  | 0, _ => exact start_0
  | 1, _ => exact start_1
  | 2, _ => exact start_2
  | 3, _ => exact start_3
  | 4, _ => exact start_4
  | 5, _ => exact start_5
  | 6, _ => exact start_6
  | 7, _ => exact start_7
  | n + 8, h => omega
theorem ShaRoots : palaverlaw02_ShaRoots.Stmt := by
  intro n wn
  have hn : 0 ≤ n ∧ n < 256 := by
    have h := wn
    simp [Lit.wf] at h
    have e1 : IntKind.u8.min = 0 := by decide
    have e2 : IntKind.u8.max = 255 := by decide
    omega
  suffices h : Sha.Ev (fun k => palaverlaw02_ShaRoots.f k n) true from h.get
  have t1 : Int.tmod n 64 = n % 64 := Int.tmod_eq_emod_of_nonneg (by omega)
  have w1 : wrap64 (n % 64) = n % 64 := Sha.w64 (by omega) (by omega)
  have t2 : Int.tmod (n % 64) 8 = n % 64 % 8 := Int.tmod_eq_emod_of_nonneg (by omega)
  have hk : Sha.Ev (fun k => palaverref02_Key.f k (n % 64)) (rd tableL (n % 64)) := by
    have := key_all (n % 64).toNat (by omega)
    rw [show (((n % 64).toNat : Nat) : Int) = n % 64 by omega] at this
    exact Sha.Ev.stays (fun k => palaverref02_Key.mono _ k) 450 this
  have hs : Sha.Ev (fun k => palaverref02_Start.f k (n % 64 % 8)) (rd Sha.start (n % 64 % 8)) := by
    have := start_all (n % 64 % 8).toNat (by omega)
    rw [show (((n % 64 % 8).toNat : Nat) : Int) = n % 64 % 8 by omega] at this
    exact Sha.Ev.stays (fun k => palaverref02_Start.mono _ k) 450 this
  obtain ⟨r, h1, h2, _⟩ := sum_same (strOfNums [n]) (by rw [strOfNums_size]; show (1 : Nat) ≤ 140737488355000; omega)
  unfold palaverlaw02_ShaRoots.f palaverref02_Table.f palaverref02_Starts.f
  simp only [Option.bind_some, t1, w1, t2]
  exact Sha.Ev.bind hk (ifs (by omega) (ifs (by omega) (ifs rfl (Sha.Ev.bind hs (ifs (by omega) (ifs (by omega) (ifs rfl (Sha.Ev.bind h1 (Sha.Ev.bind h2 (ifs rfl awake_then))))))))))
end Go.Proofs.YtlnodlhlbaigkaaDoor.Pure
