/-
  Package cncref01: numbers in digits to the base 65536.
  Conditions: none.
-/
import Derived.Test.YtcfgklmpfkmdkaaUa
namespace U
open Go
/-- digits of n, the least one first -/
def lim (n : Nat) : List (List Int) := if n = 0 then [] else [((n % 65536 : Nat) : Int)] :: lim (n / 65536)
termination_by n
decreasing_by omega
/-- the number of digits -/
def dv : List (List Int) → Nat
  | [] => 0
  | r :: l => (r.getD 0 0).toNat + 65536 * dv l
def dg (l : List (List Int)) : Prop := ∀ r ∈ l, ∃ d : Int, r = [d] ∧ 0 ≤ d ∧ d < 65536
def cmp3 (x y : Nat) : Int := if x < y then -1 else if x = y then 0 else 1
end U
namespace Go.Proofs.Ytcfgklmpfkmdkaa
open Go Go.HL U
def SLimbs (hargs : List HV) (pars : List (List HC)) : SR :=
  match hargs, pars with
  | [.ce (.int .u64 n)], [] => .det (0 ≤ n ∧ n < 18446744073709551616) ⟨.ce (.sl false [8] (lim n.toNat)), true, [], []⟩
  | _, _ => .fail
def anLimbs : LAnn := ⟨[0, 3, 100003], [3, 100003], [], false⟩
def LLimbs (v : LV) : LR :=
  match v with
  | ([.ce (.int .u64 n), .ce (.sl false [8] acc), .ce (.lit true)], []) =>
    .det (acc.length = 0 ∧ 0 ≤ n ∧ n < 18446744073709551616) (.exit 0) ([.ce (.sl false [8] (lim n.toNat)), .ce (.lit true)], [])
  | _ => .fail
noncomputable def CLimbs : Ctx := ⟨Try.prog, gam [], Try.f65.ntmps, [(2, anLimbs, LLimbs)], []⟩
theorem vcLimbs (n : Int) (Q : Res → Prop) : (nfun true CLimbs Try.f65 (bodyOf Try.f65) [.ce (.int .u64 n)] [] Q) =
    (((0 : Nat) = (0 : Nat) ∧ (0 : Int) ≤ n ∧ n < (18446744073709551616 : Int)) ∧ Q { val := HV.ce (HC.sl false [(8 : Nat)] (lim (Int.toNat n))), own := true, pars := [], news := [] }) := by kernel_rfl
theorem vbLimbs (n : Int) (acc : List (List Int)) (K : HEx → LV → Prop) : (nbodyT true CLimbs anLimbs (nthLoop Try.f65 0) (([.ce (.int .u64 n), .ce (.sl false [8] acc), .ce (.lit true)], [])) K) =
    ((decide (n > (0 : Int)) = true → ((0 : Int) ≤ n ∧ n ≤ (18446744073709551615 : Int) ∧ (65535 : Int) ≤ (18446744073709551615 : Int)) ∧ ∀ (x1 : Int), x1 = n % (65536 : Int) → ((List.length acc + (1 : Nat)) * (8 : Nat) ≤ (140737488355328 : Nat) ∧ List.length acc + (1 : Nat) ≤ maxLen) ∧ (0 : Int) ≤ (16 : Int) ∧ ∀ (x2 : Int), x2 = n / (65536 : Int) → K HEx.normal ([HV.ce (HC.int IntKind.u64 x2), HV.ce (HC.sl false [(8 : Nat)] (acc ++ [[x1]])), HV.ce (HC.lit true)], [])) ∧ (decide (n > (0 : Int)) = false → K (HEx.exit (0 : Nat)) ([HV.ce (HC.sl false [(8 : Nat)] acc), HV.ce (HC.lit true)], []))) := by kernel_rfl
def SCut (hargs : List HV) (pars : List (List HC)) : SR :=
  match hargs, pars with
  | [.ce (.sl false [8] l)], [] => .det (dg l ∧ l.length ≤ 1000) ⟨.ce (.sl false [8] (lim (dv l))), false, [], []⟩
  | _, _ => .fail
def anCut : LAnn := ⟨[0], [0], [], false⟩
def LCut (v : LV) : LR :=
  match v with
  | ([.ce (.sl false [8] l)], []) => .det (dg l ∧ l.length ≤ 1000) (.exit 0) ([.ce (.sl false [8] (lim (dv l)))], [])
  | _ => .fail
noncomputable def CCut : Ctx := ⟨Try.prog, gam [], Try.f75.ntmps, [(1, anCut, LCut)], []⟩
theorem vcCut (l : List (List Int)) (Q : Res → Prop) : (nfun true CCut Try.f75 (bodyOf Try.f75) [.ce (.sl false [8] l)] [] Q) =
    ((dg l ∧ List.length l ≤ (1000 : Nat)) ∧ Q { val := HV.ce (HC.sl false [(8 : Nat)] (lim (dv l))), own := false, pars := [], news := [] }) := by kernel_rfl
theorem vbCut (l : List (List Int)) (K : HEx → LV → Prop) : (nbodyT true CCut anCut (nthLoop Try.f75 0) (([.ce (.sl false [8] l)], [])) K) =
    ((decide ((((List.length l) : Nat) : Int) > (0 : Int)) = true → ((-9223372036854775808 : Int) ≤ (((List.length l) : Nat) : Int) - (1 : Int) ∧ (((List.length l) : Nat) : Int) - (1 : Int) ≤ (9223372036854775807 : Int)) ∧ ∀ (x1 : Int), x1 = (((List.length l) : Nat) : Int) - (1 : Int) → ((0 : Int) ≤ x1 ∧ x1 < (((List.length l) : Nat) : Int)) ∧ ∀ (x2 : Int), x2 = el l (Int.toNat x1) → ((x2 == (0 : Int)) = true → ((-9223372036854775808 : Int) ≤ (((List.length l) : Nat) : Int) - (1 : Int) ∧ (((List.length l) : Nat) : Int) - (1 : Int) ≤ (9223372036854775807 : Int)) ∧ ∀ (x3 : Int), x3 = (((List.length l) : Nat) : Int) - (1 : Int) → ((0 : Int) ≤ x3 ∧ x3 ≤ (((List.length l) : Nat) : Int)) ∧ K HEx.normal ([HV.ce (HC.sl false [(8 : Nat)] (List.take (Int.toNat x3) l))], [])) ∧ ((x2 == (0 : Int)) = false → K (HEx.exit (0 : Nat)) ([HV.ce (HC.sl false [(8 : Nat)] l)], []))) ∧ (decide ((((List.length l) : Nat) : Int) > (0 : Int)) = false →
    K (HEx.exit (0 : Nat)) ([HV.ce (HC.sl false [(8 : Nat)] l)], []))) := by kernel_rfl
def SMag (hargs : List HV) (pars : List (List HC)) : SR :=
  match hargs, pars with
  | [.ce (.int .i64 x)], [] => .det (-9223372036854775808 ≤ x ∧ x ≤ 9223372036854775807) ⟨.ce (.int .u64 (x.natAbs : Int)), false, [], []⟩
  | _, _ => .fail
noncomputable def CMag : Ctx := ⟨Try.prog, gam [], Try.f66.ntmps, [], []⟩
theorem vcMag (x : Int) (Q : Res → Prop) : (nfun true CMag Try.f66 (bodyOf Try.f66) [.ce (.int .i64 x)] [] Q) =
    ((decide (x < (0 : Int)) = true → ((-9223372036854775808 : Int) ≤ x + (1 : Int) ∧ x + (1 : Int) ≤ (9223372036854775807 : Int)) ∧ ∀ (x1 : Int), x1 = x + (1 : Int) → ((-9223372036854775808 : Int) ≤ (0 : Int) - x1 ∧ (0 : Int) - x1 ≤ (9223372036854775807 : Int)) ∧ ∀ (x2 : Int), x2 = (0 : Int) - x1 → ∀ (x3 : Int), x3 = x2 % (18446744073709551616 : Int) → ∀ (x4 : Int), x4 = (x3 + (1 : Int)) % (18446744073709551616 : Int) → Q { val := HV.ce (HC.int IntKind.u64 x4), own := false, pars := [], news := [] }) ∧ (decide (x < (0 : Int)) = false → ∀ (x5 : Int), x5 = x % (18446744073709551616 : Int) → Q { val := HV.ce (HC.int IntKind.u64 x5), own := false, pars := [], news := [] })) := by kernel_rfl
def SRight (hargs : List HV) (pars : List (List HC)) : SR :=
  match hargs, pars with
  | [.ce (.int .i64 x)], [] => .det True ⟨.ce (.bool (decide (0 ≤ x ∧ x ≤ 2))), false, [], []⟩
  | _, _ => .fail
noncomputable def CRight : Ctx := ⟨Try.prog, gam [], Try.f63.ntmps, [], []⟩
theorem vcRight (x : Int) (Q : Res → Prop) : (nfun true CRight Try.f63 (bodyOf Try.f63) [.ce (.int .i64 x)] [] Q) =
    (((x == (0 : Int)) = true → Q { val := HV.ce (HC.bool true), own := false, pars := [], news := [] }) ∧ ((x == (0 : Int)) = false → ((x == (1 : Int)) = true → Q { val := HV.ce (HC.bool true), own := false, pars := [], news := [] }) ∧ ((x == (1 : Int)) = false → Q { val := HV.ce (HC.bool (x == (2 : Int))), own := false, pars := [], news := [] }))) := by kernel_rfl
def SSgn (hargs : List HV) (pars : List (List HC)) : SR :=
  match hargs, pars with
  | [.ce (.int .i64 x), .ce (.int .i64 y)], [] => .det True ⟨.ce (.int .i64 (x.sign * y.sign)), false, [], []⟩
  | _, _ => .fail
noncomputable def CSgn : Ctx := ⟨Try.prog, gam [], Try.f71.ntmps, [], []⟩
theorem vcSgn (x y : Int) (Q : Res → Prop) : (nfun true CSgn Try.f71 (bodyOf Try.f71) [.ce (.int .i64 x), .ce (.int .i64 y)] [] Q) =
    (((x == (0 : Int)) = true → Q { val := HV.ce (HC.int IntKind.i64 (0 : Int)), own := false, pars := [], news := [] }) ∧ ((x == (0 : Int)) = false → ((y == (0 : Int)) = true → Q { val := HV.ce (HC.int IntKind.i64 (0 : Int)), own := false, pars := [], news := [] }) ∧ ((y == (0 : Int)) = false → ((decide (x < (0 : Int)) == decide (y < (0 : Int))) = true → Q { val := HV.ce (HC.int IntKind.i64 (1 : Int)), own := false, pars := [], news := [] }) ∧ ((decide (x < (0 : Int)) == decide (y < (0 : Int))) = false → Q { val := HV.ce (HC.int IntKind.i64 (-1 : Int)), own := false, pars := [], news := [] })))) := by kernel_rfl
def SCmp (hargs : List HV) (pars : List (List HC)) : SR :=
  match hargs, pars with
  | [.ce (.sl false [8] a), .ce (.sl false [8] b)], [] => .det (a = lim (dv a) ∧ b = lim (dv b) ∧ a.length ≤ 1000 ∧ b.length ≤ 1000) ⟨.ce (.int .i64 (cmp3 (dv a) (dv b))), false, [], []⟩
  | _, _ => .fail
def anCmp : LAnn := ⟨[0, 1, 4, 5], [4], [], false⟩
def LCmp (v : LV) : LR :=
  match v with
  | ([.ce (.sl false [8] a), .ce (.sl false [8] b), .ce (.int .i64 r), .ce (.int .i64 k)], []) =>
    .alts (dg a ∧ dg b ∧ a.length = b.length ∧ k = (a.length : Int) - 1 ∧ a.length ≤ 1000)
      [(dv a = dv b, .exit 0, ([.ce (.int .i64 r)], [])), (dv a ≠ dv b, .ret, ([.ce (.int .i64 (cmp3 (dv a) (dv b)))], []))]
  | _ => .fail
noncomputable def CCmp : Ctx := ⟨Try.prog, gam [], Try.f67.ntmps, [(6, anCmp, LCmp)], []⟩
theorem vcCmp (a b : List (List Int)) (Q : Res → Prop) : (nfun true CCmp Try.f67 (bodyOf Try.f67) [.ce (.sl false [8] a), .ce (.sl false [8] b)] [] Q) =
    ((((((List.length a) : Nat) : Int) != (((List.length b) : Nat) : Int)) = true → (decide ((((List.length a) : Nat) : Int) < (((List.length b) : Nat) : Int)) = true → Q { val := HV.ce (HC.int IntKind.i64 (-1 : Int)), own := false, pars := [], news := [] }) ∧ (decide ((((List.length a) : Nat) : Int) < (((List.length b) : Nat) : Int)) = false → Q { val := HV.ce (HC.int IntKind.i64 (1 : Int)), own := false, pars := [], news := [] })) ∧ (((((List.length a) : Nat) : Int) != (((List.length b) : Nat) : Int)) = false → ((-9223372036854775808 : Int) ≤ (((List.length a) : Nat) : Int) - (1 : Int) ∧ (((List.length a) : Nat) : Int) - (1 : Int) ≤ (9223372036854775807 : Int)) ∧ ∀ (x1 : Int), x1 = (((List.length a) : Nat) : Int) - (1 : Int) → (dg a ∧ dg b ∧ List.length a = List.length b ∧ x1 = (((List.length a) : Nat) : Int) - (1 : Int) ∧ List.length a ≤ (1000 : Nat)) ∧ (dv a = dv b → Q { val := HV.ce (HC.int IntKind.i64 (0 : Int)), own := false, pars := [], news := [] }) ∧
    (dv a ≠ dv b → Q { val := HV.ce (HC.int IntKind.i64 (cmp3 (dv a) (dv b))), own := false, pars := [], news := [] }))) := by kernel_rfl
theorem vbCmp (a b : List (List Int)) (r k : Int) (K : HEx → LV → Prop) : (nbodyT true CCmp anCmp (nthLoop Try.f67 0) (([.ce (.sl false [8] a), .ce (.sl false [8] b), .ce (.int .i64 r), .ce (.int .i64 k)], [])) K) =
    ((decide (k ≥ (0 : Int)) = true → ((0 : Int) ≤ k ∧ k < (((List.length a) : Nat) : Int)) ∧ ∀ (x1 : Int), x1 = el a (Int.toNat k) → ((0 : Int) ≤ k ∧ k < (((List.length b) : Nat) : Int)) ∧ ∀ (x2 : Int), x2 = el b (Int.toNat k) → (decide (x1 < x2) = true → K HEx.ret ([HV.ce (HC.int IntKind.i64 (-1 : Int))], [])) ∧ (decide (x1 < x2) = false → ((0 : Int) ≤ k ∧ k < (((List.length a) : Nat) : Int)) ∧ ∀ (x3 : Int), x3 = el a (Int.toNat k) → ((0 : Int) ≤ k ∧ k < (((List.length b) : Nat) : Int)) ∧ ∀ (x4 : Int), x4 = el b (Int.toNat k) → (decide (x3 > x4) = true → K HEx.ret ([HV.ce (HC.int IntKind.i64 (1 : Int))], [])) ∧ (decide (x3 > x4) = false → ((-9223372036854775808 : Int) ≤ k - (1 : Int) ∧ k - (1 : Int) ≤ (9223372036854775807 : Int)) ∧ ∀ (x5 : Int), x5 = k - (1 : Int) → K HEx.normal ([HV.ce (HC.sl false [(8 : Nat)] a), HV.ce (HC.sl false [(8 : Nat)] b), HV.ce (HC.int IntKind.i64 r), HV.ce (HC.int IntKind.i64 x5)], [])))) ∧
    (decide (k ≥ (0 : Int)) = false → K (HEx.exit (0 : Nat)) ([HV.ce (HC.int IntKind.i64 r)], []))) := by kernel_rfl
end Go.Proofs.Ytcfgklmpfkmdkaa
namespace U
open Go
theorem lim_zero : lim 0 = [] := by unfold lim; rfl
theorem lim_pos {n : Nat} (h : n ≠ 0) : lim n = [((n % 65536 : Nat) : Int)] :: lim (n / 65536) := by rw [lim]; rw [if_neg h]
theorem dv_lim (n : Nat) : dv (lim n) = n := by
  induction n using Nat.strongRecOn with
  | ind n ih =>
    by_cases h : n = 0
    · subst h; rw [lim_zero]; rfl
    · rw [lim_pos h]
      show (((n % 65536 : Nat) : Int)).toNat + 65536 * dv (lim (n / 65536)) = n
      rw [ih _ (by omega)]
      omega
theorem dg_lim (n : Nat) : dg (lim n) := by
  induction n using Nat.strongRecOn with
  | ind n ih =>
    by_cases h : n = 0
    · subst h; rw [lim_zero]; intro r hr; cases hr
    · rw [lim_pos h]
      intro r hr
      rcases List.mem_cons.1 hr with rfl | hr
      · exact ⟨_, rfl, by omega, by omega⟩
      · exact ih _ (by omega) r hr
theorem lim_len : ∀ (k n : Nat), n < 65536 ^ k → (lim n).length ≤ k
  | 0, n, h => by
    have : n = 0 := by simpa using h
    subst this; rw [lim_zero]; exact Nat.le_refl _
  | k + 1, n, h => by
    by_cases h0 : n = 0
    · subst h0; rw [lim_zero]; exact Nat.zero_le _
    · rw [lim_pos h0]
      have : n / 65536 < 65536 ^ k := by
        rw [Nat.pow_succ] at h
        exact Nat.div_lt_of_lt_mul (by rw [Nat.mul_comm]; exact h)
      have := lim_len k _ this
      simpa using this
theorem lim_low (n : Nat) (h : n ≠ 0) : 65536 ^ ((lim n).length - 1) ≤ n := by
  induction n using Nat.strongRecOn with
  | ind n ih =>
    rw [lim_pos h]
    by_cases h0 : n / 65536 = 0
    · rw [h0, lim_zero]; simp; omega
    · have := ih _ (by omega) h0
      rw [List.length_cons, Nat.add_sub_cancel]
      have hl : (lim (n / 65536)).length = ((lim (n / 65536)).length - 1) + 1 := by
        rw [lim_pos h0]; simp
      rw [hl, Nat.pow_succ]
      omega
theorem dv_append (a b : List (List Int)) : dv (a ++ b) = dv a + 65536 ^ a.length * dv b := by
  induction a with
  | nil => simp [dv]
  | cons r a ih =>
    show (r.getD 0 0).toNat + 65536 * dv (a ++ b) = (r.getD 0 0).toNat + 65536 * dv a + 65536 ^ (a.length + 1) * dv b
    rw [ih, Nat.pow_succ]
    grind
theorem dg_cons {r : List Int} {l : List (List Int)} (h : dg (r :: l)) : (∃ d : Int, r = [d] ∧ 0 ≤ d ∧ d < 65536) ∧ dg l := ⟨h r (by simp), fun x hx => h x (List.mem_cons_of_mem _ hx)⟩
theorem dg_append {a b : List (List Int)} (ha : dg a) (hb : dg b) : dg (a ++ b) := fun r hr => by
  rcases List.mem_append.1 hr with h | h
  · exact ha r h
  · exact hb r h
theorem dg_one {d : Int} (h0 : 0 ≤ d) (h1 : d < 65536) : dg [[d]] := fun r hr => by simp at hr; exact ⟨d, hr, h0, h1⟩
theorem dg_take {l : List (List Int)} (h : dg l) (k : Nat) : dg (l.take k) := fun r hr => h r (List.mem_of_mem_take hr)
theorem dg_drop {l : List (List Int)} (h : dg l) (k : Nat) : dg (l.drop k) := fun r hr => h r (List.mem_of_mem_drop hr)
theorem dv_lt {l : List (List Int)} (h : dg l) : dv l < 65536 ^ l.length := by
  induction l with
  | nil => simp [dv]
  | cons r l ih =>
    obtain ⟨⟨d, rfl, h0, h1⟩, hl⟩ := dg_cons h
    have := ih hl
    show (([d] : List Int).getD 0 0).toNat + 65536 * dv l < 65536 ^ (l.length + 1)
    have e : (([d] : List Int).getD 0 0) = d := rfl
    rw [e, Nat.pow_succ]
    omega
theorem el_dg {l : List (List Int)} (h : dg l) {j : Nat} (hj : j < l.length) : 0 ≤ el l j ∧ el l j < 65536 ∧ l.getD j [] = [el l j] := by
  obtain ⟨d, hd, h0, h1⟩ := h (l[j]) (List.getElem_mem hj)
  have e : l.getD j [] = [d] := by simp [List.getD_eq_getElem?_getD, hj, hd]
  have e2 : el l j = d := by unfold el; rw [e]; rfl
  rw [e2]
  exact ⟨h0, h1, e⟩
theorem dv_drop {l : List (List Int)} {j : Nat} (hj : j < l.length) : dv (l.drop j) = (el l j).toNat + 65536 * dv (l.drop (j + 1)) := by
  rw [List.drop_eq_getElem_cons hj]
  have : el l j = (l[j]).getD 0 0 := by unfold el; simp [List.getD_eq_getElem?_getD, hj]
  rw [this]; rfl
theorem dv_split (l : List (List Int)) {j : Nat} (hj : j ≤ l.length) : dv l = dv (l.take j) + 65536 ^ j * dv (l.drop j) := by
  have h := dv_append (l.take j) (l.drop j)
  rw [List.take_append_drop] at h
  rw [h, List.length_take, Nat.min_eq_left hj]
theorem dv_take_succ {l : List (List Int)} {j : Nat} (hj : j < l.length) : dv (l.take (j + 1)) = dv (l.take j) + 65536 ^ j * (el l j).toNat := by
  have h1 := dv_split l (Nat.le_of_lt hj)
  have h2 := dv_split l (show j + 1 ≤ l.length from hj)
  rw [dv_drop hj] at h1
  rw [Nat.pow_succ] at h2
  have : 65536 ^ j * ((el l j).toNat + 65536 * dv (l.drop (j + 1))) = 65536 ^ j * (el l j).toNat + 65536 ^ j * 65536 * dv (l.drop (j + 1)) := by grind
  omega
theorem lim_of {l : List (List Int)} (h : dg l) : (l = [] ∨ el l (l.length - 1) ≠ 0) → lim (dv l) = l := by
  induction l with
  | nil => intro _; exact lim_zero
  | cons r l ih =>
    intro h0
    obtain ⟨⟨d, rfl, h1, h2⟩, hl⟩ := dg_cons h
    have h0' : el ([d] :: l) l.length ≠ 0 := by
      rcases h0 with h0 | h0
      · cases h0
      · simpa using h0
    have hv : dv ([d] :: l) = d.toNat + 65536 * dv l := rfl
    by_cases hn : l = []
    · subst hn
      have hd : d ≠ 0 := h0'
      rw [hv]
      show lim (d.toNat + 65536 * 0) = _
      rw [lim_pos (by omega)]
      have e1 : (d.toNat + 65536 * 0) / 65536 = 0 := by omega
      have e2 : (((d.toNat + 65536 * 0) % 65536 : Nat) : Int) = d := by omega
      rw [e1, e2, lim_zero]
    · have hlp : 0 < l.length := List.length_pos_iff.2 hn
      have hlast : el l (l.length - 1) ≠ 0 := by
        have : el ([d] :: l) l.length = el l (l.length - 1) := by
          unfold el
          rw [show l.length = (l.length - 1) + 1 by omega]
          rfl
        rwa [this] at h0'
      have ih' := ih hl (.inr hlast)
      have hpos : dv l ≠ 0 := fun e => by rw [e, lim_zero] at ih'; exact hn ih'.symm
      rw [hv, lim_pos (by omega)]
      have e1 : (d.toNat + 65536 * dv l) / 65536 = dv l := by omega
      have e2 : (((d.toNat + 65536 * dv l) % 65536 : Nat) : Int) = d := by omega
      rw [e1, e2, ih']
theorem lim_dv_lim (n : Nat) : lim (dv (lim n)) = lim n := by rw [dv_lim]
theorem dv_cut {l : List (List Int)} (hp : 0 < l.length) (h : el l (l.length - 1) = 0) : dv (l.take (l.length - 1)) = dv l := by
  have h1 := dv_take_succ (l := l) (j := l.length - 1) (by omega)
  rw [show l.length - 1 + 1 = l.length by omega, List.take_length, h] at h1
  rw [h1]
  simp
theorem dv_low {a b : List (List Int)} (ha : dg a) (hb : dg b) (hl : a.length = b.length) {j : Nat} (hj : j < a.length) (hd : dv (a.drop (j + 1)) = dv (b.drop (j + 1))) (hlt : el a j < el b j) : dv a < dv b := by
  have h1 := dv_split a (Nat.le_of_lt hj)
  have h2 := dv_split b (show j ≤ b.length by omega)
  rw [dv_drop hj] at h1
  rw [dv_drop (show j < b.length by omega)] at h2
  have h3 := dv_lt (dg_take ha j)
  rw [List.length_take, Nat.min_eq_left (Nat.le_of_lt hj)] at h3
  have h4 := el_dg ha hj
  have h5 := el_dg hb (show j < b.length by omega)
  rw [← hd] at h2
  generalize dv (a.drop (j + 1)) = D at *
  have h6 : (el a j).toNat + 1 ≤ (el b j).toNat := by omega
  have h7 : 65536 ^ j * ((el a j).toNat + 65536 * D) + 65536 ^ j ≤ 65536 ^ j * ((el b j).toNat + 65536 * D) := by
    have : 65536 ^ j * ((el a j).toNat + 1 + 65536 * D) ≤ 65536 ^ j * ((el b j).toNat + 65536 * D) := Nat.mul_le_mul_left _ (by omega)
    have e : 65536 ^ j * ((el a j).toNat + 1 + 65536 * D) = 65536 ^ j * ((el a j).toNat + 65536 * D) + 65536 ^ j := by grind
    omega
  omega
theorem cmp_len {x y : Nat} (h : (lim x).length < (lim y).length) : x < y := by
  have hy : y ≠ 0 := fun e => by subst e; rw [lim_zero] at h; exact absurd h (Nat.not_lt_zero _)
  have h1 := lim_low y hy
  have h2 := dv_lt (dg_lim x)
  rw [dv_lim] at h2
  have h3 : 65536 ^ (lim x).length ≤ 65536 ^ ((lim y).length - 1) := Nat.pow_le_pow_right (by omega) (by omega)
  omega
end U
namespace Go.Proofs.Ytcfgklmpfkmdkaa
open Go Go.HL U
set_option maxRecDepth 100000 in
theorem loopLimbs : ∀ v Q, (LLimbs v).wp Q → hloop CLimbs anLimbs (nthLoop Try.f65 0) v Q := by
  intro v Q h
  unfold LLimbs at h
  split at h
  case h_2 => exact h.elim
  rename_i n acc
  obtain ⟨⟨h1, h2, h3⟩, hq⟩ := h
  obtain rfl : acc = [] := List.eq_nil_of_length_eq_zero h1
  refine hloop_rec (σ := Nat × List (List Int)) (fun s => ([.ce (.int .u64 (s.1 : Int)), .ce (.sl false [8] s.2), .ce (.lit true)], [])) (fun s => s.1)
    (fun s => s.2 ++ lim s.1 = lim n.toNat ∧ s.1 < 18446744073709551616) ?_ (n.toNat, []) ⟨by simp, by omega⟩ |> (fun x => by rwa [show ((n.toNat : Nat) : Int) = n by omega] at x)
  rintro ⟨m, l⟩ ⟨hs, hm⟩ K hn he _
  dsimp only at hs hm hn
  refine byVB (vbLimbs m l K) ⟨fun hlt => ?_, fun hge => ?_⟩
  · have hlt := of_decide_eq_true hlt
    have hlen : l.length + (lim m).length ≤ 4 := by
      rw [← List.length_append, hs]; exact lim_len 4 _ (by omega)
    refine ⟨by omega, fun x1 e1 => ⟨⟨by omega, by unfold maxLen; omega⟩, by omega, fun x2 e2 => ?_⟩⟩
    have := hn (m / 65536, l ++ [[x1]]) ⟨by
      have e : x1 = ((m % 65536 : Nat) : Int) := by omega
      rw [e, List.append_assoc]
      rw [lim_pos (by omega)] at hs
      exact hs, by dsimp only; omega⟩ (by dsimp only; omega)
    dsimp only at this
    rw [show x2 = ((m / 65536 : Nat) : Int) by omega]
    exact this
  · have hge := of_decide_eq_false hge
    obtain rfl : m = 0 := by omega
    rw [lim_zero, List.append_nil] at hs
    subst hs
    exact he _ _ hq
set_option maxHeartbeats 400000 in
set_option maxRecDepth 100000 in
theorem sLimbs : Sound Try.prog 65 SLimbs := by
  refine sound_of (C := CLimbs) [] Try.func65 (by kernel_rfl) (by decide +kernel) (by kernel_rfl) rfl trivial (loops1 (by kernel_rfl) (loopOK_of (an := anLimbs) (S := LLimbs) (by kernel_rfl) loopLimbs)) ?_
  intro hargs pars R h
  unfold SLimbs at h
  split at h
  case h_2 => exfalso; exact h
  rename_i n
  have h2 := h.2
  have h1 := h.1
  refine byVC (vcLimbs n R) ?_
  refine ⟨?_, h2⟩
  exact ⟨rfl, h1⟩
set_option maxRecDepth 100000 in
theorem loopCut : ∀ v Q, (LCut v).wp Q → hloop CCut anCut (nthLoop Try.f75 0) v Q := by
  intro v Q h
  unfold LCut at h
  split at h
  case h_2 => exact h.elim
  rename_i l
  obtain ⟨⟨h1, h2⟩, hq⟩ := h
  refine hloop_rec (σ := List (List Int)) (fun s => ([.ce (.sl false [8] s)], [])) (fun s => s.length)
    (fun s => dg s ∧ s.length ≤ 1000 ∧ dv s = dv l) ?_ l ⟨h1, h2, rfl⟩
  rintro s ⟨hs1, hs2, hs3⟩ K hn he _
  have done : (s = [] ∨ el s (s.length - 1) ≠ 0) → K (.exit 0) ([.ce (.sl false [8] s)], []) := fun hh => he _ _ (by
    have := lim_of hs1 hh
    rw [hs3] at this
    rw [this] at hq
    exact hq)
  refine byVB (vbCut s K) ?_
  refine ⟨fun hlt => ?_, fun hge => ?_⟩
  · have hlt := of_decide_eq_true hlt
    refine ⟨by omega, fun x1 e1 => ⟨by omega, fun x2 e2 => ⟨fun hz => ?_, fun hz => ?_⟩⟩⟩
    · refine ⟨by omega, fun x3 e3 => ⟨by omega, ?_⟩⟩
      have e4 : x3.toNat = s.length - 1 := by omega
      have e5 : x1.toNat = s.length - 1 := by omega
      have hx2 : x2 = 0 := by simpa using hz
      have := hn (s.take (s.length - 1)) ⟨dg_take hs1 _, by rw [List.length_take]; omega, by
        rw [dv_cut (by omega) (by rw [e5] at e2; unfold el; unfold el at e2; omega), hs3]⟩ (by rw [List.length_take]; omega)
      rw [e4]
      exact this
    · have hx2 : x2 ≠ 0 := by simpa using hz
      have e5 : x1.toNat = s.length - 1 := by omega
      rw [e5] at e2
      exact done (.inr (by unfold el; unfold el at e2; omega))
  · have hge := of_decide_eq_false hge
    exact done (.inl (List.eq_nil_of_length_eq_zero (by omega)))
set_option maxHeartbeats 400000 in
set_option maxRecDepth 100000 in
theorem sCut : Sound Try.prog 75 SCut := by
  refine sound_of (C := CCut) [] Try.func75 (by kernel_rfl) (by decide +kernel) (by kernel_rfl) rfl trivial (loops1 (by kernel_rfl) (loopOK_of (an := anCut) (S := LCut) (by kernel_rfl) loopCut)) ?_
  intro hargs pars R h
  unfold SCut at h
  split at h
  case h_2 => exfalso; exact h
  rename_i l
  have h2 := h.2
  have h1 := h.1
  refine byVC (vcCut l R) ?_
  exact ⟨h1, h2⟩
set_option maxHeartbeats 400000 in
set_option maxRecDepth 100000 in
theorem sMag : Sound Try.prog 66 SMag := by
  refine sound_of (C := CMag) [] Try.func66 (by kernel_rfl) (by decide +kernel) (by kernel_rfl) rfl trivial (loops0 (by kernel_rfl)) ?_
  intro hargs pars R h
  unfold SMag at h
  split at h
  case h_2 => exfalso; exact h
  rename_i x
  obtain ⟨⟨h1, h2⟩, hq⟩ := h
  refine byVC (vcMag x R) ⟨fun e => ?_, fun e => ?_⟩
  · have := of_decide_eq_true e
    refine ⟨by omega, fun x1 e1 => ⟨by omega, fun x2 e2 x3 e3 x4 e4 => ?_⟩⟩
    rw [show x4 = (x.natAbs : Int) by omega]
    exact hq
  · have := of_decide_eq_false e
    intro x5 e5
    rw [show x5 = (x.natAbs : Int) by omega]
    exact hq
set_option maxHeartbeats 400000 in
set_option maxRecDepth 100000 in
theorem sRight : Sound Try.prog 63 SRight := by
  refine sound_of (C := CRight) [] Try.func63 (by kernel_rfl) (by decide +kernel) (by kernel_rfl) rfl trivial (loops0 (by kernel_rfl)) ?_
  intro hargs pars R h
  unfold SRight at h
  split at h
  case h_2 => exfalso; exact h
  rename_i x
  have hq := h.2
  refine byVC (vcRight x R) ⟨fun e => ?_, fun e => ⟨fun e2 => ?_, fun e2 => ?_⟩⟩
  · have : x = 0 := by simpa using e
    subst this; exact hq
  · have : x = 1 := by simpa using e2
    subst this; exact hq
  · have h0 : x ≠ 0 := by simpa using e
    have h1 : x ≠ 1 := by simpa using e2
    have : (x == 2) = decide (0 ≤ x ∧ x ≤ 2) := by
      by_cases hx : x = 2
      · subst hx; rfl
      · rw [decide_eq_false (by omega)]; simpa using hx
    rw [this]; exact hq
set_option maxHeartbeats 400000 in
set_option maxRecDepth 100000 in
theorem sSgn : Sound Try.prog 71 SSgn := by
  refine sound_of (C := CSgn) [] Try.func71 (by kernel_rfl) (by decide +kernel) (by kernel_rfl) rfl trivial (loops0 (by kernel_rfl)) ?_
  intro hargs pars R h
  unfold SSgn at h
  split at h
  case h_2 => exfalso; exact h
  rename_i x y
  have hq := h.2
  refine byVC (vcSgn x y R) ⟨fun e => ?_, fun e => ⟨fun e2 => ?_, fun e2 => ⟨fun e3 => ?_, fun e3 => ?_⟩⟩⟩
  · have : x = 0 := by simpa using e
    subst this; simpa using hq
  · have : y = 0 := by simpa using e2
    subst this; simpa using hq
  · have h0 : x ≠ 0 := by simpa using e
    have h1 : y ≠ 0 := by simpa using e2
    have : x.sign * y.sign = 1 := by
      rcases Int.lt_or_gt_of_ne h0 with hx | hx <;> rcases Int.lt_or_gt_of_ne h1 with hy | hy
      · rw [Int.sign_eq_neg_one_of_neg hx, Int.sign_eq_neg_one_of_neg hy]; rfl
      · simp [hx, Int.not_lt.2 (Int.le_of_lt hy)] at e3
      · simp [hy, Int.not_lt.2 (Int.le_of_lt hx)] at e3
      · rw [Int.sign_eq_one_of_pos hx, Int.sign_eq_one_of_pos hy]; rfl
    rw [this] at hq; exact hq
  · have h0 : x ≠ 0 := by simpa using e
    have h1 : y ≠ 0 := by simpa using e2
    have : x.sign * y.sign = -1 := by
      rcases Int.lt_or_gt_of_ne h0 with hx | hx <;> rcases Int.lt_or_gt_of_ne h1 with hy | hy
      · simp [hx, hy] at e3
      · rw [Int.sign_eq_neg_one_of_neg hx, Int.sign_eq_one_of_pos hy]; rfl
      · rw [Int.sign_eq_one_of_pos hx, Int.sign_eq_neg_one_of_neg hy]; rfl
      · simp [Int.not_lt.2 (Int.le_of_lt hx), Int.not_lt.2 (Int.le_of_lt hy)] at e3
    rw [this] at hq; exact hq
set_option maxRecDepth 100000 in
theorem loopCmp : ∀ v Q, (LCmp v).wp Q → hloop CCmp anCmp (nthLoop Try.f67 0) v Q := by
  intro v Q h
  unfold LCmp at h
  split at h
  case h_2 => exact h.elim
  rename_i a b r k
  obtain ⟨⟨h1, h2, h3, h4, h5⟩, hq1, hq2⟩ := h
  subst h4
  refine hloop_rec (σ := Nat) (fun j => ([.ce (.sl false [8] a), .ce (.sl false [8] b), .ce (.int .i64 r), .ce (.int .i64 ((j : Int) - 1))], [])) (fun j => j)
    (fun j => j ≤ a.length ∧ dv (a.drop j) = dv (b.drop j)) ?_ a.length ⟨Nat.le_refl _, by rw [List.drop_length, h3, List.drop_length]⟩
  rintro j ⟨hj, hd⟩ K hn he hr
  refine byVB (vbCmp a b r _ K) ⟨fun hlt => ?_, fun hge => ?_⟩
  · have hlt := of_decide_eq_true hlt
    have ej : ((j : Int) - 1).toNat = j - 1 := by omega
    have hjj : j - 1 + 1 = j := by omega
    refine ⟨by omega, fun x1 e1 => ⟨by omega, fun x2 e2 => ?_⟩⟩
    rw [ej] at e1 e2
    have e1 : x1 = el a (j - 1) := e1
    have e2 : x2 = el b (j - 1) := e2
    refine ⟨fun hx => ?_, fun hx => ⟨by omega, fun x3 e3 => ⟨by omega, fun x4 e4 => ?_⟩⟩⟩
    · have hx := of_decide_eq_true hx
      have := dv_low h1 h2 h3 (j := j - 1) (by omega) (by rw [hjj]; exact hd) (by omega)
      refine hr _ ?_
      have := hq2 (by omega)
      unfold cmp3 at this
      rw [if_pos (by omega)] at this
      exact this
    · have hx := of_decide_eq_false hx
      rw [ej] at e3 e4
      have e3 : x3 = el a (j - 1) := e3
      have e4 : x4 = el b (j - 1) := e4
      refine ⟨fun hy => ?_, fun hy => ⟨by omega, fun x5 e5 => ?_⟩⟩
      · have hy := of_decide_eq_true hy
        have := dv_low h2 h1 h3.symm (j := j - 1) (by omega) (by rw [hjj]; exact hd.symm) (by omega)
        refine hr _ ?_
        have := hq2 (by omega)
        unfold cmp3 at this
        rw [if_neg (by omega), if_neg (by omega)] at this
        exact this
      · have hy := of_decide_eq_false hy
        have := hn (j - 1) ⟨by omega, by
          rw [dv_drop (show j - 1 < a.length by omega), dv_drop (show j - 1 < b.length by omega), hjj, hd]
          have : el a (j - 1) = el b (j - 1) := by omega
          rw [this]⟩ (by omega)
        rw [show x5 = ((j - 1 : Nat) : Int) - 1 by omega]
        exact this
  · have hge := of_decide_eq_false hge
    obtain rfl : j = 0 := by omega
    exact he _ _ (hq1 (by simpa using hd))
set_option maxHeartbeats 400000 in
set_option maxRecDepth 100000 in
theorem sCmp : Sound Try.prog 67 SCmp := by
  refine sound_of (C := CCmp) [] Try.func67 (by kernel_rfl) (by decide +kernel) (by kernel_rfl) rfl trivial (loops1 (by kernel_rfl) (loopOK_of (an := anCmp) (S := LCmp) (by kernel_rfl) loopCmp)) ?_
  intro hargs pars R h
  unfold SCmp at h
  split at h
  case h_2 => exfalso; exact h
  rename_i a b
  have hq := h.2
  have h := h.1
  have ha := h.1
  have hb := h.2.1
  have hal := h.2.2.1
  have hbl := h.2.2.2
  have hla : a.length = (lim (dv a)).length := congrArg List.length ha
  have hlb : b.length = (lim (dv b)).length := congrArg List.length hb
  refine byVC (vcCmp a b R) ⟨fun hne => ⟨fun hlt => ?_, fun hlt => ?_⟩, fun heq => ⟨by omega, fun x1 e1 => ⟨⟨by rw [ha]; exact dg_lim _, by rw [hb]; exact dg_lim _, by simp at heq; omega, e1, hal⟩, fun e => ?_, fun e => hq⟩⟩⟩
  · have hlt := of_decide_eq_true hlt
    have := cmp_len (x := dv a) (y := dv b) (by omega)
    unfold cmp3 at hq
    rw [if_pos this] at hq
    exact hq
  · have hlt := of_decide_eq_false hlt
    have hne : a.length ≠ b.length := by simp at hne; omega
    have := cmp_len (x := dv b) (y := dv a) (by omega)
    unfold cmp3 at hq
    rw [if_neg (by omega), if_neg (by omega)] at hq
    exact hq
  · unfold cmp3 at hq
    rw [if_neg (by omega), if_pos e] at hq
    exact hq
end Go.Proofs.Ytcfgklmpfkmdkaa
