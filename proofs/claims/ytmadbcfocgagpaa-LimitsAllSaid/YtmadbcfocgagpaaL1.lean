/-
  The differences of a list (limits.Differences and its reference): what the loop and the function come to.
  Conditions: none.
-/
import Derived.Test.YtmadbcfocgagpaaUa
namespace U
open Go
def dif (l : List (List Int)) (n : Nat) : List (List Int) := (List.range n).map fun j => [IntKind.i64.wrap (el l (j + 1) - el l j)]
end U
namespace Go.Proofs.Ytmadbcfocgagpaa
open Go Go.HL U

def anD : LAnn := ⟨[0, 3, 100003, 4], [3, 100003], [], false⟩

def LD (v : LV) : LR :=
  match v with
  | ([.ce (.sl false [4] l), .ce (.sl false [4] acc), .ce (.lit true), .ce (.int .i64 k)], []) =>
    .det (acc.length = 0 ∧ k = 1 ∧ l.length ≤ 1000) (.exit 0) ([.ce (.sl false [4] (dif l (l.length - 1))), .ce (.lit true)], [])
  | _ => .fail

def SD (hargs : List HV) (pars : List (List HC)) : SR :=
  match hargs, pars with
  | [.ce (.sl false [4] l)], [] => .det (l.length ≤ 1000) ⟨.ce (.sl false [4] (dif l (l.length - 1))), true, [], []⟩
  | _, _ => .fail

noncomputable def CD : Ctx := ⟨Try.prog, gam [], 25, [(3, anD, LD)], []⟩
theorem vc12 (l : List (List Int)) (Q : Res → Prop) : (hfun CD Try.f12 (bodyOf Try.f12) [.ce (.sl false [4] l)] [] Q) =
    (((0 : Nat) = (0 : Nat) ∧ (1 : Int) = (1 : Int) ∧ List.length l ≤ (1000 : Nat)) ∧
      Q { val := HV.ce (HC.sl false [(4 : Nat)] (dif l (List.length l - (1 : Nat)))), own := true, pars := [], news := [] }) := by kernel_rfl
theorem vb12 (l acc : List (List Int)) (k : Int) (K : HEx → LV → Prop) : (bodyT CD anD (nthLoop Try.f12 0) ([.ce (.sl false [4] l), .ce (.sl false [4] acc), .ce (.lit true), .ce (.int .i64 k)], []) K) =
    ((decide (k < (((List.length l) : Nat) : Int)) = true →
        ((0 : Int) ≤ k ∧ k < (((List.length l) : Nat) : Int)) ∧
          ((0 : Int) ≤ IntKind.wrap IntKind.i64 (k - (1 : Int)) ∧
              IntKind.wrap IntKind.i64 (k - (1 : Int)) < (((List.length l) : Nat) : Int)) ∧
            ((List.length acc + (1 : Nat)) * (8 : Nat) ≤ (140737488355328 : Nat) ∧ List.length acc + (1 : Nat) ≤ maxLen) ∧
              K HEx.normal
                ([HV.ce (HC.sl false [(4 : Nat)] l),
                    HV.ce
                      (HC.sl false [(4 : Nat)]
                        (acc ++
                          [[IntKind.wrap IntKind.i64
                                (el l (Int.toNat k) - el l (Int.toNat (IntKind.wrap IntKind.i64 (k - (1 : Int)))))]])),
                    HV.ce (HC.lit true), HV.ce (HC.int IntKind.i64 (IntKind.wrap IntKind.i64 (k + (1 : Int))))],
                  [])) ∧
      (decide (k < (((List.length l) : Nat) : Int)) = false →
        K (HEx.exit (0 : Nat)) ([HV.ce (HC.sl false [(4 : Nat)] acc), HV.ce (HC.lit true)], []))) := by kernel_rfl
theorem vc13 (l : List (List Int)) (Q : Res → Prop) : (hfun CD Try.f13 (bodyOf Try.f13) [.ce (.sl false [4] l)] [] Q) =
    (((0 : Nat) = (0 : Nat) ∧ (1 : Int) = (1 : Int) ∧ List.length l ≤ (1000 : Nat)) ∧
      Q { val := HV.ce (HC.sl false [(4 : Nat)] (dif l (List.length l - (1 : Nat)))), own := true, pars := [], news := [] }) := by kernel_rfl
theorem vb13 (l acc : List (List Int)) (k : Int) (K : HEx → LV → Prop) : (bodyT CD anD (nthLoop Try.f13 0) ([.ce (.sl false [4] l), .ce (.sl false [4] acc), .ce (.lit true), .ce (.int .i64 k)], []) K) =
    ((decide (k < (((List.length l) : Nat) : Int)) = true →
        ((0 : Int) ≤ k ∧ k < (((List.length l) : Nat) : Int)) ∧
          ((0 : Int) ≤ IntKind.wrap IntKind.i64 (k - (1 : Int)) ∧
              IntKind.wrap IntKind.i64 (k - (1 : Int)) < (((List.length l) : Nat) : Int)) ∧
            ((List.length acc + (1 : Nat)) * (8 : Nat) ≤ (140737488355328 : Nat) ∧ List.length acc + (1 : Nat) ≤ maxLen) ∧
              K HEx.normal
                ([HV.ce (HC.sl false [(4 : Nat)] l),
                    HV.ce
                      (HC.sl false [(4 : Nat)]
                        (acc ++
                          [[IntKind.wrap IntKind.i64
                                (el l (Int.toNat k) - el l (Int.toNat (IntKind.wrap IntKind.i64 (k - (1 : Int)))))]])),
                    HV.ce (HC.lit true), HV.ce (HC.int IntKind.i64 (IntKind.wrap IntKind.i64 (k + (1 : Int))))],
                  [])) ∧
      (decide (k < (((List.length l) : Nat) : Int)) = false →
        K (HEx.exit (0 : Nat)) ([HV.ce (HC.sl false [(4 : Nat)] acc), HV.ce (HC.lit true)], []))) := by kernel_rfl

theorem dif_succ (l : List (List Int)) (n : Nat) : dif l (n + 1) = dif l n ++ [[IntKind.i64.wrap (el l (n + 1) - el l n)]] := by
  unfold dif
  rw [List.range_succ, List.map_append]
  rfl
theorem dif_length (l : List (List Int)) (n : Nat) : (dif l n).length = n := by simp [dif]

theorem loopD {c : Code} (hb : ∀ (l acc : List (List Int)) (k : Int) (K : HEx → LV → Prop), bodyT CD anD c ([.ce (.sl false [4] l), .ce (.sl false [4] acc), .ce (.lit true), .ce (.int .i64 k)], []) K =
    bodyT CD anD (nthLoop Try.f12 0) ([.ce (.sl false [4] l), .ce (.sl false [4] acc), .ce (.lit true), .ce (.int .i64 k)], []) K) : ∀ v Q, (LD v).wp Q → hloop CD anD c v Q := by
  intro v Q h
  unfold LD at h
  split at h
  case h_2 => exact h.elim
  rename_i l acc k
  obtain ⟨⟨h1, h2, h3⟩, hq⟩ := h
  subst h2
  obtain rfl : acc = [] := List.eq_nil_of_length_eq_zero h1
  refine hloop_rec (σ := Nat) (fun j => ([.ce (.sl false [4] l), .ce (.sl false [4] (dif l j)), .ce (.lit true), .ce (.int .i64 ((j : Int) + 1))], [])) (fun j => l.length - j) (fun j => j ≤ l.length - 1) ?_ 0 (Nat.zero_le _)
  intro j hj K hn he _
  rw [hb, vb12]
  have hw : IntKind.i64.wrap ((j : Int) + 1 - 1) = j := by rw [wrap_small] <;> omega
  refine ⟨fun hlt => ?_, fun hge => ?_⟩
  · have hlt : (j : Int) + 1 < l.length := of_decide_eq_true hlt
    rw [hw]
    refine ⟨⟨by omega, by omega⟩, ⟨by omega, by omega⟩, ⟨by rw [dif_length]; omega, by rw [dif_length]; unfold maxLen; omega⟩, ?_⟩
    have := hn (j + 1) (by omega) (by omega)
    rw [dif_succ] at this
    have e : IntKind.i64.wrap ((j : Int) + 1 + 1) = ((j + 1 : Nat) : Int) + 1 := by rw [wrap_small] <;> omega
    rw [e]
    exact this
  · have hge : ¬ (j : Int) + 1 < l.length := of_decide_eq_false hge
    refine he _ _ ?_
    have hj2 : j = l.length - 1 := by omega
    subst hj2
    exact hq

theorem s12 : Sound Try.prog 12 SD := by
  refine sound_of (C := CD) [] Try.func12 (by kernel_rfl) (by decide +kernel) (by kernel_rfl) rfl trivial (loops1 (by kernel_rfl) (loopOK_of (an := anD) (S := LD) (by kernel_rfl) (loopD fun _ _ _ _ => rfl))) ?_
  intro hargs pars R h
  unfold SD at h
  split at h
  · rw [vc12]; exact ⟨⟨rfl, rfl, h.1⟩, h.2⟩
  · exact h.elim

theorem s13 : Sound Try.prog 13 SD := by
  refine sound_of (C := CD) [] Try.func13 (by kernel_rfl) (by decide +kernel) (by kernel_rfl) rfl trivial (loops1 (by kernel_rfl) (loopOK_of (an := anD) (S := LD) (by kernel_rfl) (loopD fun _ _ _ _ => by rw [vb12, vb13]))) ?_
  intro hargs pars R h
  unfold SD at h
  split at h
  · rw [vc13]; exact ⟨⟨rfl, rfl, h.1⟩, h.2⟩
  · exact h.elim

end Go.Proofs.Ytmadbcfocgagpaa
