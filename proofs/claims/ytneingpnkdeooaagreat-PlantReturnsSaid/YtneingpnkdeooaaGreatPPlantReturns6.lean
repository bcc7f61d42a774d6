/-
  Part 6.
  Conditions: none.
-/
import Derived.Test.YtneingpnkdeooaaGreatPPlantReturns5
set_option maxRecDepth 100000
set_option maxHeartbeats 400000
set_option linter.unusedVariables false
set_option linter.unusedSimpArgs false
namespace U
open Go
def tshf (pk : List (List Int)) (d bl u : Int) (c : Nat) : Int :=
 if tfind pk u < 0 then bsh bl d else tsh bl (ec pk (tfind pk u).toNat 3) (ec pk (tfind pk u).toNat (4 + c)) (ec pk (tfind pk u).toNat (7 + c)) (ec pk (tfind pk u).toNat 0) u
theorem mtr_shf (st og sg : Int) (pt : List (List Int)) (bl s : Int) (sgs : List (List Int)) (c : Nat) (pk : List (List Int)) (sa d u : Int) :
 mtr st og sg pt bl s sgs c pk sa d u = mot st og sg pt (ptAt s sgs c (tplace pk sa u)) + tshf pk d bl u c := rfl
def unitOK (s : Int) (sgs : List (List Int)) (c : Nat) (bl d f m : Int) (pk : List (List Int)) (u : Int) : Prop :=
 (tplace pk f u = tplace pk f (u - 1) /\ (-1 <= tshf pk d bl u c - tshf pk d bl (u - 1) c /\ tshf pk d bl u c - tshf pk d bl (u - 1) c <= 1) /\ (-bl <= tshf pk d bl u c /\ tshf pk d bl u c <= 0)) ∨
 (tplace pk f u = tplace pk f (u - 1) + m /\ (0 <= tplace pk f u /\ tplace pk f u <= plen sgs) /\ (0 <= tplace pk f (u - 1) /\ tplace pk f (u - 1) <= plen sgs) /\
  ∃ e, pm e /\ tshf pk d bl u c = bsh bl e /\ tshf pk d bl (u - 1) c = bsh bl e /\ 0 <= e * (ptAt s sgs c (tplace pk f u) - ptAt s sgs c (tplace pk f (u - 1))))
def legOK (s0 s1 s2 : Int) (sgs : List (List Int)) (b0 b1 b2 d0 d1 d2 f m : Int) (pk : List (List Int)) (ln p a0 a1 a2 : Int) : Prop :=
 okT pk ln /\ 0 <= ln /\ tplace pk f ln = p /\ tplace pk f 0 = f /\ (pm a0 /\ pm a1 /\ pm a2) /\
 (tshf pk d0 b0 ln 0 = bsh b0 a0 /\ tshf pk d1 b1 ln 1 = bsh b1 a1 /\ tshf pk d2 b2 ln 2 = bsh b2 a2) /\
 (tshf pk d0 b0 0 0 = bsh b0 d0 /\ tshf pk d1 b1 0 1 = bsh b1 d1 /\ tshf pk d2 b2 0 2 = bsh b2 d2) /\
 ∀ u, 1 <= u /\ u <= ln -> unitOK s0 sgs 0 b0 d0 f m pk u /\ unitOK s1 sgs 1 b1 d1 f m pk u /\ unitOK s2 sgs 2 b2 d2 f m pk u
end U
namespace Go.Proofs.YtneingpnkdeooaaGreat
open Go Go.HL U
theorem okT_end {pk : List (List Int)} {ln : Int} (h : okT pk ln) (hl : 0 <= ln) : (∀ j, j < pk.length -> 0 <= ec pk j 0 /\ endp pk j <= ln) /\ ∀ i j, i <= j -> j < pk.length -> endp pk i <= endp pk j := by
 obtain ⟨_, h2, h3, h4⟩ := h
 have mono : ∀ i n, i + n < pk.length -> endp pk i <= endp pk (i + n) := by
  intro i n
  induction n with
  | zero => intro _; exact Int.le_refl _
  | succ n ih =>
   intro hj
   have := ih (by omega)
   have e := h3 (i + n) (by omega)
   have u := (h4 (i + n + 1) (by omega)).1
   show endp pk i <= endp pk (i + n + 1)
   unfold endp at this e ⊢
   omega
 have mono2 : ∀ i j, i <= j -> j < pk.length -> endp pk i <= endp pk j := fun i j hij hj => by
  have := mono i (j - i) (by omega)
  rw [show i + (j - i) = j by omega] at this
  exact this
 refine ⟨fun j hj => ⟨?_, ?_⟩, mono2⟩
 . cases j with
   | zero => rw [(h2 (by omega)).1]; exact Int.le_refl _
   | succ i =>
    rw [h3 i hj]
    have := mono2 0 i (Nat.zero_le _) (by omega)
    have e0 := (h2 (by omega)).1
    have u0 := (h4 0 (by omega)).1
    unfold endp at this ⊢
    omega
 . have := mono2 j (pk.length - 1) (by omega) (by omega)
   rw [(h2 (by omega)).2] at this
   exact this
theorem okT_find {pk : List (List Int)} {ln u : Int} (h : okT pk ln) (hl : 0 <= ln) (hp : 0 < pk.length) (hu : 0 <= u /\ u <= ln) :
 ∃ j, j < pk.length /\ tfind pk u = (j : Int) /\ u <= endp pk j /\ (∀ k, k < j -> endp pk k < u) /\ ec pk j 0 <= u := by
 rcases tpcA_spec u pk 0 with ⟨_, hh⟩ | ⟨j, h1, h2, h3, h4⟩
 . have := hh (pk.length - 1) (by omega)
   have := (h.2.1 hp).2
   omega
 . refine ⟨j, h1, by unfold tfind; omega, h3, h4, ?_⟩
   cases j with
   | zero => rw [(h.2.1 hp).1]; exact hu.1
   | succ i => have := h4 i (by omega); rw [h.2.2.1 i h1]; omega
theorem find_app {pk : List (List Int)} {ln u : Int} {r : List Int} (h : okT pk ln) (hl : 0 <= ln) (hp : 0 < pk.length) (hu : 0 <= u /\ u <= ln) : tfind (pk ++ [r]) u = tfind pk u /\ ∀ c, ec (pk ++ [r]) (tfind pk u).toNat c = ec pk (tfind pk u).toNat c := by
 obtain ⟨j, h1, h2, h3, h4, _⟩ := okT_find h hl hp hu
 have e : ∀ k c, k < pk.length -> ec (pk ++ [r]) k c = ec pk k c := fun k c hk => by rw [ec_app, if_pos hk]
 have ee : ∀ k, k < pk.length -> endp (pk ++ [r]) k = endp pk k := fun k hk => by unfold endp; rw [e k 0 hk, e k 1 hk]
 refine ⟨?_, fun c => by rw [h2]; exact e j c h1⟩
 rw [h2]
 exact tfind_of (by rw [List.length_append]; omega) (by rw [ee j h1]; exact h3) (fun k hk => by rw [ee k (by omega)]; exact h4 k hk)
theorem find_new {pk : List (List Int)} {ln u U : Int} {r : List Int} (h : okT pk ln) (hl : 0 <= ln) (hr : r.getD 0 0 = ln) (hr1 : r.getD 1 0 = U) (hu : ln < u /\ u <= ln + U) : tfind (pk ++ [r]) u = (pk.length : Int) /\ ∀ c, ec (pk ++ [r]) pk.length c = r.getD c 0 := by
 have e : ∀ k c, k < pk.length -> ec (pk ++ [r]) k c = ec pk k c := fun k c hk => by rw [ec_app, if_pos hk]
 have el : ∀ c, ec (pk ++ [r]) pk.length c = r.getD c 0 := fun c => by rw [ec_app, if_neg (by omega), Nat.sub_self]; rfl
 have ee : ∀ k, k < pk.length -> endp (pk ++ [r]) k = endp pk k := fun k hk => by unfold endp; rw [e k 0 hk, e k 1 hk]
 refine ⟨tfind_of (by simp) (by unfold endp; rw [el, el, hr, hr1]; omega) (fun k hk => ?_), el⟩
 rw [ee k hk]
 have := ((okT_end h hl).1 k hk).2
 omega
theorem find_new0 {U : Int} {r : List Int} (hr : r.getD 0 0 = 0) (hr1 : r.getD 1 0 = U) (hU : 0 <= U) : tfind ([] ++ [r]) 0 = 0 /\ ∀ c, ec ([] ++ [r]) 0 c = r.getD c 0 := by
 refine ⟨?_, fun c => rfl⟩
 have := tfind_of (pk := [r]) (u := 0) (j := 0) (by simp) (by show 0 <= r.getD 0 0 + r.getD 1 0; omega) (fun k hk => by omega)
 exact this
theorem find_set {pk : List (List Int)} {ln u U : Int} (h : okT pk ln) (hl : 0 <= ln) (hp : 0 < pk.length) (hU : 0 <= U) (hu : 0 <= u /\ u <= ln) :
 tfind (pk.set (pk.length - 1) (more (pk.getD (pk.length - 1) []) U)) u = tfind pk u /\ ∀ c, c ≠ 1 -> c < 10 -> ec (pk.set (pk.length - 1) (more (pk.getD (pk.length - 1) []) U)) (tfind pk u).toNat c = ec pk (tfind pk u).toNat c := by
 obtain ⟨j, h1, h2, h3, h4, _⟩ := okT_find h hl hp hu
 have es : ∀ j c, ec (pk.set (pk.length - 1) (more (pk.getD (pk.length - 1) []) U)) j c = if pk.length - 1 = j then (more (pk.getD (pk.length - 1) []) U).getD c 0 else ec pk j c := fun j c => ec_set _ _ _ _ _ (by omega)
 have m : ∀ c, c ≠ 1 -> c < 10 -> (more (pk.getD (pk.length - 1) []) U).getD c 0 = ec pk (pk.length - 1) c := fun c hc hc2 => by
  have hc : c = 0 ∨ c = 2 ∨ c = 3 ∨ c = 4 ∨ c = 5 ∨ c = 6 ∨ c = 7 ∨ c = 8 ∨ c = 9 := by omega
  rcases hc with rfl | rfl | rfl | rfl | rfl | rfl | rfl | rfl | rfl <;> rfl
 have m1 : (more (pk.getD (pk.length - 1) []) U).getD 1 0 = ec pk (pk.length - 1) 1 + U := rfl
 have eq : ∀ k c, c ≠ 1 -> c < 10 -> ec (pk.set (pk.length - 1) (more (pk.getD (pk.length - 1) []) U)) k c = ec pk k c := fun k c hc hc2 => by
  rw [es]
  split
  . rename_i e; rw [m c hc hc2, e]
  . rfl
 have ee : ∀ k, k ≠ pk.length - 1 -> endp (pk.set (pk.length - 1) (more (pk.getD (pk.length - 1) []) U)) k = endp pk k := fun k hk => by
  unfold endp; rw [es, es, if_neg (fun e => hk e.symm), if_neg (fun e => hk e.symm)]
 have el : endp (pk.set (pk.length - 1) (more (pk.getD (pk.length - 1) []) U)) (pk.length - 1) = endp pk (pk.length - 1) + U := by
  unfold endp; rw [es, es, if_pos rfl, if_pos rfl, m 0 (by decide) (by decide), m1]; omega
 refine ⟨?_, fun c hc hc2 => by rw [h2]; exact eq j c hc hc2⟩
 rw [h2]
 refine tfind_of (by rw [List.length_set]; exact h1) ?_ (fun k hk => by rw [ee k (by omega)]; exact h4 k hk)
 by_cases hj : j = pk.length - 1
 . subst hj; rw [el]; omega
 . rw [ee j hj]; exact h3
theorem find_setn {pk : List (List Int)} {ln u U : Int} (h : okT pk ln) (hl : 0 <= ln) (hp : 0 < pk.length) (hu : ln < u /\ u <= ln + U) :
 tfind (pk.set (pk.length - 1) (more (pk.getD (pk.length - 1) []) U)) u = ((pk.length - 1 : Nat) : Int) /\ ∀ c, c ≠ 1 -> c < 10 -> ec (pk.set (pk.length - 1) (more (pk.getD (pk.length - 1) []) U)) (pk.length - 1) c = ec pk (pk.length - 1) c := by
 have es : ∀ j c, ec (pk.set (pk.length - 1) (more (pk.getD (pk.length - 1) []) U)) j c = if pk.length - 1 = j then (more (pk.getD (pk.length - 1) []) U).getD c 0 else ec pk j c := fun j c => ec_set _ _ _ _ _ (by omega)
 have m : ∀ c, c ≠ 1 -> c < 10 -> (more (pk.getD (pk.length - 1) []) U).getD c 0 = ec pk (pk.length - 1) c := fun c hc hc2 => by
  have hc : c = 0 ∨ c = 2 ∨ c = 3 ∨ c = 4 ∨ c = 5 ∨ c = 6 ∨ c = 7 ∨ c = 8 ∨ c = 9 := by omega
  rcases hc with rfl | rfl | rfl | rfl | rfl | rfl | rfl | rfl | rfl <;> rfl
 have m1 : (more (pk.getD (pk.length - 1) []) U).getD 1 0 = ec pk (pk.length - 1) 1 + U := rfl
 refine ⟨tfind_of (by rw [List.length_set]; omega) ?_ (fun k hk => ?_), fun c hc hc2 => by rw [es, if_pos rfl, m c hc hc2]⟩
 . have := (h.2.1 hp).2
   unfold endp at this ⊢
   rw [es, es, if_pos rfl, if_pos rfl, m 0 (by decide) (by decide), m1]
   omega
 . unfold endp
   rw [es, es, if_neg (by omega), if_neg (by omega)]
   have := ((okT_end h hl).1 k (by omega)).2
   unfold endp at this
   omega
theorem find_last {pk : List (List Int)} {ln : Int} (h : okT pk ln) (hl : 0 <= ln) (hp : 0 < pk.length) : tfind pk ln = ((pk.length - 1 : Nat) : Int) := by
 have he := (h.2.1 hp).2
 refine tfind_of (by omega) (by omega) (fun k hk => ?_)
 have e := h.2.2.1 (pk.length - 2) (by omega)
 rw [show pk.length - 2 + 1 = pk.length - 1 by omega] at e
 have := (okT_end h hl).2 k (pk.length - 2) (by omega) (by omega)
 have u := (h.2.2.2 (pk.length - 1) (by omega)).1
 unfold endp at he e this ⊢
 omega
theorem place_eq {pk pk' : List (List Int)} {u sa : Int} (h : tfind pk' u = tfind pk u) (e : ∀ c, c ≠ 1 -> c < 10 -> ec pk' (tfind pk u).toNat c = ec pk (tfind pk u).toNat c) : tplace pk' sa u = tplace pk sa u := by
 unfold tplace; rw [h, e 2 (by decide) (by decide), e 3 (by decide) (by decide), e 0 (by decide) (by decide)]
theorem shf_eq {pk pk' : List (List Int)} {u d bl : Int} {c : Nat} (hc : c < 3) (h : tfind pk' u = tfind pk u) (e : ∀ c, c ≠ 1 -> c < 10 -> ec pk' (tfind pk u).toNat c = ec pk (tfind pk u).toNat c) : tshf pk' d bl u c = tshf pk d bl u c := by
 unfold tshf; rw [h, e 3 (by decide) (by decide), e (4 + c) (by omega) (by omega), e (7 + c) (by omega) (by omega), e 0 (by decide) (by decide)]
theorem place_at {pk : List (List Int)} {u sa : Int} {j : Nat} (h : tfind pk u = (j : Int)) : tplace pk sa u = ec pk j 2 + ec pk j 3 * (u - ec pk j 0) := by
 unfold tplace; rw [h, if_neg (by omega)]; rfl
theorem shf_at {pk : List (List Int)} {u d bl : Int} {j c : Nat} (h : tfind pk u = (j : Int)) : tshf pk d bl u c = tsh bl (ec pk j 3) (ec pk j (4 + c)) (ec pk j (7 + c)) (ec pk j 0) u := by
 unfold tshf; rw [h, if_neg (by omega)]; rfl
theorem unit_eq {s : Int} {sgs : List (List Int)} {c : Nat} {bl d f m : Int} {pk pk' : List (List Int)} {u : Int} (h1 : tplace pk' f u = tplace pk f u) (h2 : tplace pk' f (u - 1) = tplace pk f (u - 1))
 (h3 : tshf pk' d bl u c = tshf pk d bl u c) (h4 : tshf pk' d bl (u - 1) c = tshf pk d bl (u - 1) c) (h : unitOK s sgs c bl d f m pk u) : unitOK s sgs c bl d f m pk' u := by
 unfold unitOK at h ⊢
 rw [h1, h2, h3, h4]; exact h
theorem tsh_move {bl mv w n a u : Int} (h : mv ≠ 0) : tsh bl mv w n a u = bsh bl n := by unfold tsh; rw [if_pos (.inl h)]
theorem tsh_zero {bl a n at_ : Int} (ha : pm a) (hn : pm n) (hb : 0 <= bl) : tsh bl 0 a n at_ at_ = bsh bl a := by
 unfold tsh
 by_cases e : a = n
 . rw [if_pos (.inr e), e]
 . rw [if_neg (by simp [e])]
   unfold pm at ha hn
   unfold bsh
   by_cases e2 : n = -1
   . rw [if_pos e2, if_neg (by omega)]; omega
   . rw [if_neg e2, if_pos (by omega)]; omega
theorem tsh_step1 {bl a n at_ v : Int} (hb : 0 <= bl) (hv : 1 <= v) : (-1 <= tsh bl 0 a n at_ (at_ + v) - tsh bl 0 a n at_ (at_ + (v - 1)) /\ tsh bl 0 a n at_ (at_ + v) - tsh bl 0 a n at_ (at_ + (v - 1)) <= 1) /\ (-bl <= tsh bl 0 a n at_ (at_ + v) /\ tsh bl 0 a n at_ (at_ + v) <= 0) := by
 have hb' : -bl <= bsh bl n /\ bsh bl n <= 0 := by unfold bsh; split <;> omega
 unfold tsh
 by_cases e : a = n
 . rw [if_pos (Or.inr e : (0 : Int) ≠ 0 ∨ a = n), if_pos (Or.inr e : (0 : Int) ≠ 0 ∨ a = n)]
   omega
 . have e' : ¬ ((0 : Int) ≠ 0 ∨ a = n) := by simp [e]
   rw [if_neg e', if_neg e']
   by_cases e2 : n = -1
   . rw [if_pos e2, if_pos e2]; omega
   . rw [if_neg e2, if_neg e2]; omega
theorem tsh_end {bl a n at_ U : Int} (hn : pm n) (hU : a ≠ n -> bl <= U) : tsh bl 0 a n at_ (at_ + U) = bsh bl n := by
 unfold tsh
 by_cases e : a = n
 . rw [if_pos (.inr e)]
 . have := hU e
   rw [if_neg (by simp [e])]
   unfold pm at hn
   unfold bsh
   by_cases e2 : n = -1
   . rw [if_pos e2, if_pos e2]; omega
   . rw [if_neg e2, if_neg e2]; omega
def stepD (s : Int) (sgs : List (List Int)) (c : Nat) (bl m p mv : Int) (g : Int -> Int) (v : Int) : Prop :=
 (mv = 0 /\ (-1 <= g v - g (v - 1) /\ g v - g (v - 1) <= 1) /\ (-bl <= g v /\ g v <= 0)) ∨
 (mv = m /\ (0 <= p + mv * v /\ p + mv * v <= plen sgs) /\ (0 <= p + mv * (v - 1) /\ p + mv * (v - 1) <= plen sgs) /\ ∃ e, pm e /\ g v = bsh bl e /\ g (v - 1) = bsh bl e /\ 0 <= e * (ptAt s sgs c (p + mv * v) - ptAt s sgs c (p + mv * (v - 1))))
theorem unit_ext {s : Int} {sgs : List (List Int)} {c : Nat} {bl d f m ln U p mv : Int} {pk pk' : List (List Int)} {g : Int -> Int}
 (oldP : ∀ u, 0 <= u /\ u <= ln -> tplace pk' f u = tplace pk f u) (oldS : ∀ u, 0 <= u /\ u <= ln -> tshf pk' d bl u c = tshf pk d bl u c)
 (newP : ∀ v, 0 <= v /\ v <= U -> tplace pk' f (ln + v) = p + mv * v) (newS : ∀ v, 0 <= v /\ v <= U -> tshf pk' d bl (ln + v) c = g v)
 (hs : ∀ v, 1 <= v /\ v <= U -> stepD s sgs c bl m p mv g v) (h : ∀ u, 1 <= u /\ u <= ln -> unitOK s sgs c bl d f m pk u) : ∀ u, 1 <= u /\ u <= ln + U -> unitOK s sgs c bl d f m pk' u := by
 intro u hu
 by_cases h1 : u <= ln
 . exact unit_eq (oldP u (by omega)) (oldP (u - 1) (by omega)) (oldS u (by omega)) (oldS (u - 1) (by omega)) (h u (by omega))
 . have a := newP (u - ln) (by omega)
   have b := newP (u - ln - 1) (by omega)
   have a2 := newS (u - ln) (by omega)
   have b2 := newS (u - ln - 1) (by omega)
   rw [show ln + (u - ln) = u by omega] at a a2
   rw [show ln + (u - ln - 1) = u - 1 by omega] at b b2
   have e := hs (u - ln) (by omega)
   unfold unitOK
   rw [a, b, a2, b2]
   rcases e with ⟨e0, e1, e2⟩ | ⟨e0, e1, e2, e3⟩
   . left
     refine ⟨by rw [e0]; simp, e1, e2⟩
   . right
     refine ⟨?_, e1, e2, e3⟩
     rw [<- e0, Int.mul_sub mv (u - ln) 1]
     omega
theorem legOK_ext {s0 s1 s2 : Int} {sgs : List (List Int)} {b0 b1 b2 d0 d1 d2 f m ln U p mv a0 a1 a2 n0 n1 n2 : Int} {pk pk' : List (List Int)} {g0 g1 g2 : Int -> Int}
 (h : legOK s0 s1 s2 sgs b0 b1 b2 d0 d1 d2 f m pk ln p a0 a1 a2) (hT : okT pk' (ln + U)) (hU : 1 <= U) (hn : pm n0 /\ pm n1 /\ pm n2)
 (oldP : ∀ u, 0 <= u /\ u <= ln -> tplace pk' f u = tplace pk f u)
 (oldS : ∀ u, 0 <= u /\ u <= ln -> tshf pk' d0 b0 u 0 = tshf pk d0 b0 u 0 /\ tshf pk' d1 b1 u 1 = tshf pk d1 b1 u 1 /\ tshf pk' d2 b2 u 2 = tshf pk d2 b2 u 2)
 (newP : ∀ v, 0 <= v /\ v <= U -> tplace pk' f (ln + v) = p + mv * v)
 (newS : ∀ v, 0 <= v /\ v <= U -> tshf pk' d0 b0 (ln + v) 0 = g0 v /\ tshf pk' d1 b1 (ln + v) 1 = g1 v /\ tshf pk' d2 b2 (ln + v) 2 = g2 v)
 (hs : ∀ v, 1 <= v /\ v <= U -> stepD s0 sgs 0 b0 m p mv g0 v /\ stepD s1 sgs 1 b1 m p mv g1 v /\ stepD s2 sgs 2 b2 m p mv g2 v)
 (he : g0 U = bsh b0 n0 /\ g1 U = bsh b1 n1 /\ g2 U = bsh b2 n2) :
 legOK s0 s1 s2 sgs b0 b1 b2 d0 d1 d2 f m pk' (ln + U) (p + mv * U) n0 n1 n2 := by
 obtain ⟨h1, h2, h3, h4, h5, h6, h7, h8⟩ := h
 have nU := newS U (by omega)
 have o0 := oldS 0 (by omega)
 refine ⟨hT, by omega, newP U (by omega), by rw [oldP 0 (by omega)]; exact h4, hn, ⟨by rw [nU.1]; exact he.1, by rw [nU.2.1]; exact he.2.1, by rw [nU.2.2]; exact he.2.2⟩, ⟨by rw [o0.1]; exact h7.1, by rw [o0.2.1]; exact h7.2.1, by rw [o0.2.2]; exact h7.2.2⟩, fun u hu => ⟨?_, ?_, ?_⟩⟩
 . exact unit_ext oldP (fun u hu => (oldS u hu).1) newP (fun v hv => (newS v hv).1) (fun v hv => (hs v hv).1) (fun u hu => (h8 u hu).1) u hu
 . exact unit_ext oldP (fun u hu => (oldS u hu).2.1) newP (fun v hv => (newS v hv).2.1) (fun v hv => (hs v hv).2.1) (fun u hu => (h8 u hu).2.1) u hu
 . exact unit_ext oldP (fun u hu => (oldS u hu).2.2) newP (fun v hv => (newS v hv).2.2) (fun v hv => (hs v hv).2.2) (fun u hu => (h8 u hu).2.2) u hu
theorem app_ok {s0 s1 s2 : Int} {sgs : List (List Int)} {b0 b1 b2 d0 d1 d2 f m ln U p mv a0 a1 a2 w0 w1 w2 n0 n1 n2 : Int} {pk : List (List Int)}
 (h : legOK s0 s1 s2 sgs b0 b1 b2 d0 d1 d2 f m pk ln p a0 a1 a2) (hT : okT (pk ++ [[ln, U, p, mv, w0, w1, w2, n0, n1, n2]]) (ln + U)) (hU : 1 <= U) (hn : pm n0 /\ pm n1 /\ pm n2)
 (hz : tsh b0 mv w0 n0 ln ln = bsh b0 a0 /\ tsh b1 mv w1 n1 ln ln = bsh b1 a1 /\ tsh b2 mv w2 n2 ln ln = bsh b2 a2)
 (hs : ∀ v, 1 <= v /\ v <= U -> stepD s0 sgs 0 b0 m p mv (fun v => tsh b0 mv w0 n0 ln (ln + v)) v /\ stepD s1 sgs 1 b1 m p mv (fun v => tsh b1 mv w1 n1 ln (ln + v)) v /\ stepD s2 sgs 2 b2 m p mv (fun v => tsh b2 mv w2 n2 ln (ln + v)) v)
 (he : tsh b0 mv w0 n0 ln (ln + U) = bsh b0 n0 /\ tsh b1 mv w1 n1 ln (ln + U) = bsh b1 n1 /\ tsh b2 mv w2 n2 ln (ln + U) = bsh b2 n2) :
 legOK s0 s1 s2 sgs b0 b1 b2 d0 d1 d2 f m (pk ++ [[ln, U, p, mv, w0, w1, w2, n0, n1, n2]]) (ln + U) (p + mv * U) n0 n1 n2 := by
 have h' := h
 obtain ⟨h1, h2, h3, h4, h5, h6, h7, h8⟩ := h
 by_cases hp : 0 < pk.length
 . refine legOK_ext (mv := mv) h' hT hU hn (fun u hu => ?_) (fun u hu => ?_) (fun v hv => ?_) (fun v hv => ?_) hs he
   . obtain ⟨f1, f2⟩ := find_app (r := [ln, U, p, mv, w0, w1, w2, n0, n1, n2]) h1 h2 hp hu
     exact place_eq f1 fun c _ _ => f2 c
   . obtain ⟨f1, f2⟩ := find_app (r := [ln, U, p, mv, w0, w1, w2, n0, n1, n2]) h1 h2 hp hu
     exact ⟨shf_eq (by decide) f1 fun c _ _ => f2 c, shf_eq (by decide) f1 fun c _ _ => f2 c, shf_eq (by decide) f1 fun c _ _ => f2 c⟩
   . by_cases hv0 : v = 0
     . subst hv0
       obtain ⟨f1, f2⟩ := find_app (u := ln) (r := [ln, U, p, mv, w0, w1, w2, n0, n1, n2]) h1 h2 hp ⟨h2, Int.le_refl _⟩
       rw [Int.add_zero, place_eq f1 fun c _ _ => f2 c, h3]; simp
     . obtain ⟨f1, f2⟩ := find_new (u := ln + v) (U := U) (r := [ln, U, p, mv, w0, w1, w2, n0, n1, n2]) h1 h2 rfl rfl (by omega)
       rw [place_at f1, f2, f2, f2]
       show p + mv * (ln + v - ln) = p + mv * v
       rw [show ln + v - ln = v by omega]
   . by_cases hv0 : v = 0
     . subst hv0
       obtain ⟨f1, f2⟩ := find_app (u := ln) (r := [ln, U, p, mv, w0, w1, w2, n0, n1, n2]) h1 h2 hp ⟨h2, Int.le_refl _⟩
       rw [Int.add_zero, shf_eq (by decide) f1 fun c _ _ => f2 c, shf_eq (by decide) f1 fun c _ _ => f2 c, shf_eq (by decide) f1 fun c _ _ => f2 c, h6.1, h6.2.1, h6.2.2, hz.1, hz.2.1, hz.2.2]
       exact ⟨rfl, rfl, rfl⟩
     . obtain ⟨f1, f2⟩ := find_new (u := ln + v) (U := U) (r := [ln, U, p, mv, w0, w1, w2, n0, n1, n2]) h1 h2 rfl rfl (by omega)
       rw [shf_at f1, shf_at f1, shf_at f1]
       simp only [f2]
       exact ⟨rfl, rfl, rfl⟩
 . have e0 : pk = [] := List.eq_nil_of_length_eq_zero (by omega)
   have l0 : ln = 0 := h1.1 (by omega)
   subst e0 l0
   have pf : p = f := h3.symm
   obtain ⟨f1, f2⟩ := find_new0 (U := U) (r := [0, U, p, mv, w0, w1, w2, n0, n1, n2]) rfl rfl (by omega)
   have u0 : ∀ u : Int, 0 <= u /\ u <= 0 -> u = 0 := fun u hu => by omega
   have P0 : tplace ([] ++ [[0, U, p, mv, w0, w1, w2, n0, n1, n2]]) f 0 = p := by
    rw [place_at (j := 0) f1, f2, f2, f2]
    show p + mv * (0 - 0) = p
    simp
   refine legOK_ext (mv := mv) h' hT hU hn (fun u hu => ?_) (fun u hu => ?_) (fun v hv => ?_) (fun v hv => ?_) hs he
   . rw [u0 u hu, P0]; exact h3.symm
   . rw [u0 u hu, shf_at (j := 0) f1, shf_at (j := 0) f1, shf_at (j := 0) f1, h6.1, h6.2.1, h6.2.2]
     simp only [f2]
     exact hz
   . by_cases hv0 : v = 0
     . subst hv0; rw [Int.add_zero, P0]; simp
     . obtain ⟨f1, f2⟩ := find_new (pk := []) (u := 0 + v) (U := U) (r := [0, U, p, mv, w0, w1, w2, n0, n1, n2]) h1 h2 rfl rfl (by omega)
       rw [place_at f1, f2, f2, f2]
       show p + mv * (0 + v - 0) = p + mv * v
       rw [show 0 + v - 0 = v by omega]
   . by_cases hv0 : v = 0
     . subst hv0
       rw [Int.add_zero, shf_at (j := 0) f1, shf_at (j := 0) f1, shf_at (j := 0) f1]
       simp only [f2]
       exact ⟨rfl, rfl, rfl⟩
     . obtain ⟨f1, f2⟩ := find_new (pk := []) (u := 0 + v) (U := U) (r := [0, U, p, mv, w0, w1, w2, n0, n1, n2]) h1 h2 rfl rfl (by omega)
       rw [shf_at f1, shf_at f1, shf_at f1]
       simp only [f2]
       exact ⟨rfl, rfl, rfl⟩
theorem set_ok {s0 s1 s2 : Int} {sgs : List (List Int)} {b0 b1 b2 d0 d1 d2 f m ln U p mv a0 a1 a2 n0 n1 n2 : Int} {pk : List (List Int)}
 (h : legOK s0 s1 s2 sgs b0 b1 b2 d0 d1 d2 f m pk ln p a0 a1 a2) (hp : 0 < pk.length) (hT : okT (pk.set (pk.length - 1) (more (pk.getD (pk.length - 1) []) U)) (ln + U)) (hU : 1 <= U) (hn : pm n0 /\ pm n1 /\ pm n2)
 (hm : mv ≠ 0) (r3 : ec pk (pk.length - 1) 3 = mv) (r7 : ec pk (pk.length - 1) 7 = n0) (r8 : ec pk (pk.length - 1) 8 = n1) (r9 : ec pk (pk.length - 1) 9 = n2)
 (hs : ∀ v, 1 <= v /\ v <= U -> stepD s0 sgs 0 b0 m p mv (fun _ => bsh b0 n0) v /\ stepD s1 sgs 1 b1 m p mv (fun _ => bsh b1 n1) v /\ stepD s2 sgs 2 b2 m p mv (fun _ => bsh b2 n2) v) :
 legOK s0 s1 s2 sgs b0 b1 b2 d0 d1 d2 f m (pk.set (pk.length - 1) (more (pk.getD (pk.length - 1) []) U)) (ln + U) (p + mv * U) n0 n1 n2 := by
 have h' := h
 obtain ⟨h1, h2, h3, h4, h5, h6, h7, h8⟩ := h
 have fl := find_last h1 h2 hp
 have h3' := h3
 rw [place_at fl, r3] at h3'
 have S0 : ∀ (d bl : Int) (c : Nat) (n : Int), ec pk (pk.length - 1) (7 + c) = n -> tshf pk d bl ln c = bsh bl n := fun d bl c n e => by rw [shf_at fl, tsh_move (by rw [r3]; exact hm), e]
 refine legOK_ext (mv := mv) h' hT hU hn (fun u hu => ?_) (fun u hu => ?_) (fun v hv => ?_) (fun v hv => ?_) hs ⟨rfl, rfl, rfl⟩
 . obtain ⟨f1, f2⟩ := find_set (U := U) h1 h2 hp (by omega) hu
   exact place_eq f1 f2
 . obtain ⟨f1, f2⟩ := find_set (U := U) h1 h2 hp (by omega) hu
   exact ⟨shf_eq (by decide) f1 f2, shf_eq (by decide) f1 f2, shf_eq (by decide) f1 f2⟩
 . by_cases hv0 : v = 0
   . subst hv0
     obtain ⟨f1, f2⟩ := find_set (u := ln) (U := U) h1 h2 hp (by omega) ⟨h2, Int.le_refl _⟩
     rw [Int.add_zero, place_eq f1 f2, h3]; simp
   . obtain ⟨f1, f2⟩ := find_setn (u := ln + v) (U := U) h1 h2 hp (by omega)
     rw [place_at f1, f2 2 (by decide) (by decide), f2 3 (by decide) (by decide), f2 0 (by decide) (by decide), r3, <- h3', show ln + v - ec pk (pk.length - 1) 0 = (ln - ec pk (pk.length - 1) 0) + v by omega, Int.mul_add]
     omega
 . by_cases hv0 : v = 0
   . subst hv0
     obtain ⟨f1, f2⟩ := find_set (u := ln) (U := U) h1 h2 hp (by omega) ⟨h2, Int.le_refl _⟩
     rw [Int.add_zero, shf_eq (by decide) f1 f2, shf_eq (by decide) f1 f2, shf_eq (by decide) f1 f2]
     exact ⟨S0 _ _ _ _ r7, S0 _ _ _ _ r8, S0 _ _ _ _ r9⟩
   . obtain ⟨f1, f2⟩ := find_setn (u := ln + v) (U := U) h1 h2 hp (by omega)
     have q : ∀ (d bl : Int) (c : Nat), c < 3 -> ∀ n, ec pk (pk.length - 1) (7 + c) = n -> tshf (pk.set (pk.length - 1) (more (pk.getD (pk.length - 1) []) U)) d bl (ln + v) c = bsh bl n := fun d bl c hc n e => by
      rw [shf_at f1, f2 3 (by decide) (by decide), r3, tsh_move hm, f2 (7 + c) (by omega) (by omega), e]
     exact ⟨q _ _ 0 (by decide) _ r7, q _ _ 1 (by decide) _ r8, q _ _ 2 (by decide) _ r9⟩
theorem ediv_near {x e B : Int} (hB : 0 < B) (he : 0 <= e /\ e <= B) : x / B <= (x + e) / B /\ (x + e) / B <= x / B + 1 := by
 refine ⟨Int.ediv_le_ediv hB (by omega), ?_⟩
 have h1 : (x + e) / B <= (x + 1 * B) / B := Int.ediv_le_ediv hB (by omega)
 rw [Int.add_mul_ediv_right x 1 (by omega)] at h1
 exact h1
theorem rnd_step {D L d : Int} (hL : 0 < L) (hD : -L <= D /\ D <= L) : (0 <= D -> 0 <= rnd (D * (d + 1)) L - rnd (D * d) L /\ rnd (D * (d + 1)) L - rnd (D * d) L <= 1) /\ (D <= 0 -> -1 <= rnd (D * (d + 1)) L - rnd (D * d) L /\ rnd (D * (d + 1)) L - rnd (D * d) L <= 0) := by
 unfold rnd
 rw [Int.mul_add D d 1, Int.mul_one]
 generalize D * d = y
 refine ⟨fun h => ?_, fun h => ?_⟩
 . have := ediv_near (x := 2 * y + L) (e := 2 * D) (B := 2 * L) (by omega) (by omega)
   rw [show 2 * (y + D) + L = 2 * y + L + 2 * D by omega]
   omega
 . have := ediv_near (x := 2 * (y + D) + L) (e := -(2 * D)) (B := 2 * L) (by omega) (by omega)
   rw [show 2 * (y + D) + L + -(2 * D) = 2 * y + L by omega] at this
   omega
theorem rnd_zero {L : Int} (hL : 0 < L) : rnd 0 L = 0 := by
 unfold rnd
 exact Int.ediv_eq_zero_of_lt (by omega) (by omega)
theorem rnd_full {D L : Int} (hL : 0 < L) : rnd (D * L) L = D := by
 unfold rnd
 rw [show 2 * (D * L) + L = L + D * (2 * L) by grind, Int.add_mul_ediv_right _ _ (by omega), Int.ediv_eq_zero_of_lt (by omega) (by omega)]
 omega
theorem plen_take_succ : ∀ (l : List (List Int)) (j : Nat), j < l.length -> plen (l.take (j + 1)) = plen (l.take j) + ec l j 3
 | [], j, h => by simp at h
 | r :: l, 0, _ => by
  show r.getD 3 0 + 0 = 0 + r.getD 3 0
  omega
 | r :: l, j + 1, h => by
  have := plen_take_succ l j (by simpa using h)
  show r.getD 3 0 + plen (l.take (j + 1)) = r.getD 3 0 + plen (l.take j) + ec l j 3
  omega
theorem lfA_at : ∀ (l : List (List Int)) (i : Int) (j : Nat) (d : Int), (∀ k, k < l.length -> 1 <= ec l k 3) -> j < l.length -> 0 <= d -> d < ec l j 3 -> lfA l i (plen (l.take j) + d) = (i + j, d)
 | [], _, j, _, _, h, _, _ => by simp at h
 | r :: l, i, 0, d, _, _, h0, h1 => by
  unfold lfA
  have e : plen (List.take 0 (r :: l)) + d = d := by show 0 + d = d; omega
  have h1 : d < r.getD 3 0 := h1
  rw [e, if_pos h1]; simp
 | r :: l, i, j + 1, d, hp, h, h0, h1 => by
  unfold lfA
  have hp' : ∀ k, k < l.length -> 1 <= ec l k 3 := fun k hk => hp (k + 1) (by simpa using hk)
  have hn : 0 <= plen (l.take j) := by
   have : ∀ n, n <= l.length -> 0 <= plen (l.take n) := by
    intro n
    induction n with
    | zero => intro _; exact Int.le_refl _
    | succ n ih => intro hn; rw [plen_take_succ l n (by omega)]; have := ih (by omega); have := hp' n (by omega); omega
   exact this j (by simp at h; omega)
  have e : plen (List.take (j + 1) (r :: l)) + d = r.getD 3 0 + (plen (l.take j) + d) := by show r.getD 3 0 + plen (l.take j) + d = _; omega
  rw [e, if_neg (by omega), show r.getD 3 0 + (plen (l.take j) + d) - r.getD 3 0 = plen (l.take j) + d by omega, lfA_at l (i + 1) j d hp' (by simpa using h) h0 h1]
  refine Prod.ext ?_ rfl
  show i + 1 + (j : Int) = i + ((j + 1 : Nat) : Int)
  omega
theorem lfA_end : ∀ (l : List (List Int)) (i e : Int), (∀ k, k < l.length -> 1 <= ec l k 3) -> 0 <= e -> (lfA l i (plen l + e)).1 = -1
 | [], i, e, _, _ => rfl
 | r :: l, i, e, hp, he => by
  have hp' : ∀ k, k < l.length -> 1 <= ec l k 3 := fun k hk => hp (k + 1) (by simpa using hk)
  have hn : 0 <= plen l := by
   have : ∀ m : List (List Int), (∀ k, k < m.length -> 1 <= ec m k 3) -> 0 <= plen m := by
    intro m
    induction m with
    | nil => intro _; exact Int.le_refl _
    | cons a m ih =>
     intro h
     have := ih fun k hk => h (k + 1) (by simpa using hk)
     have h0 := h 0 (by simp)
     have h0 : 1 <= a.getD 3 0 := h0
     show 0 <= a.getD 3 0 + plen m
     omega
   exact this l hp'
  unfold lfA
  have e1 : plen (r :: l) + e = r.getD 3 0 + (plen l + e) := by show r.getD 3 0 + plen l + e = _; omega
  rw [e1, if_neg (by omega), show r.getD 3 0 + (plen l + e) - r.getD 3 0 = plen l + e by omega]
  exact lfA_end l (i + 1) e hp' he
theorem plen_nonneg {sg : List (List Int)} (h : okLen sg) {j : Nat} (hj : j <= sg.length) : 0 <= plen (sg.take j) := by
 induction j with
 | zero => exact Int.le_refl _
 | succ n ih => rw [plen_take_succ sg n (by omega)]; have := ih (by omega); have := h.2 n (by omega); omega
theorem plen_take_le {sg : List (List Int)} (h : okLen sg) {j : Nat} (hj : j <= sg.length) : plen (sg.take j) <= plen sg := by
 have : ∀ n, j + n <= sg.length -> plen (sg.take j) <= plen (sg.take (j + n)) := by
  intro n
  induction n with
  | zero => intro _; exact Int.le_refl _
  | succ n ih =>
   intro hn
   have := ih (by omega)
   have a := plen_take_succ sg (j + n) (by omega)
   have := h.2 (j + n) (by omega)
   rw [show j + (n + 1) = j + n + 1 by omega, a]
   omega
 have := this (sg.length - j) (by omega)
 rw [show j + (sg.length - j) = sg.length by omega, List.take_length] at this
 exact this
theorem ptAt_seg {s : Int} {sg : List (List Int)} {c j : Nat} {d : Int} (h : okLen sg) (hj : j < sg.length) (hd : 0 <= d /\ d <= ec sg j 3) :
 ptAt s sg c (plen (sg.take j) + d) = bgn s sg c j + rnd ((ec sg j c - bgn s sg c j) * d) (ec sg j 3) := by
 have hp : ∀ k, k < sg.length -> 1 <= ec sg k 3 := fun k hk => (h.2 k hk).1
 have hn := plen_nonneg h (show j <= sg.length by omega)
 have core : ∀ (j : Nat) (d : Int), j < sg.length -> 0 <= d -> d < ec sg j 3 -> ptAt s sg c (plen (sg.take j) + d) = bgn s sg c j + rnd ((ec sg j c - bgn s sg c j) * d) (ec sg j 3) := by
  intro j d hj h0 h1
  have hn := plen_nonneg h (show j <= sg.length by omega)
  have e : pfind sg (plen (sg.take j) + d) = ((j : Int), d) := by
   unfold pfind
   rw [if_neg (by omega), show max (plen (sg.take j) + d) 0 = plen (sg.take j) + d by omega, lfA_at sg 0 j d hp hj h0 h1]
   have : (0 : Int) + (j : Int) = j := by omega
   rw [this, if_pos (show (0 : Int) <= ((j : Int), d).1 by show (0 : Int) <= (j : Int); omega)]
  unfold ptAt
  rw [e, if_neg (by show ¬ (j : Int) < 0; omega)]
  rfl
 by_cases hlt : d < ec sg j 3
 . exact core j d hj hd.1 hlt
 . have hdL : d = ec sg j 3 := by omega
   have L0 := hp j hj
   rw [hdL, rnd_full (by omega)]
   by_cases hl : j + 1 < sg.length
   . rw [<- plen_take_succ sg j hj, show plen (sg.take (j + 1)) = plen (sg.take (j + 1)) + 0 by omega, core (j + 1) 0 hl (Int.le_refl _) (by have := hp (j + 1) hl; omega), Int.mul_zero, rnd_zero (by have := hp (j + 1) hl; omega)]
     have : bgn s sg c ((j + 1 : Nat) : Int) = ec sg j c := by
      unfold bgn
      rw [if_neg (by omega), show (((j + 1 : Nat) : Int) - 1).toNat = j by omega]
     rw [this]; omega
   . have e : pfind sg (plen (sg.take j) + ec sg j 3) = ((j : Int), ec sg j 3) := by
      have e2 : plen (sg.take j) + ec sg j 3 = plen sg + 0 := by
       rw [<- plen_take_succ sg j hj, List.take_of_length_le (by omega)]; omega
      have n1 := lfA_end sg 0 0 hp (Int.le_refl _)
      unfold pfind
      rw [if_neg (by omega), show max (plen (sg.take j) + ec sg j 3) 0 = plen (sg.take j) + ec sg j 3 by omega, e2, n1, if_neg (by omega)]
      refine Prod.ext ?_ ?_
      . show (sg.length : Int) - 1 = (j : Int); omega
      . show ec sg (sg.length - 1) 3 = ec sg j 3; rw [show sg.length - 1 = j by omega]
     unfold ptAt
     rw [e, if_neg (by show ¬ (j : Int) < 0; omega)]
     show bgn s sg c (j : Int) + rnd ((ec sg j c - bgn s sg c (j : Int)) * ec sg j 3) (ec sg j 3) = _
     rw [rnd_full (by omega)]
theorem ptAt_dir {s : Int} {sg : List (List Int)} {c j : Nat} {d : Int} (h : okLen sg) (hj : j < sg.length) (hd : 0 <= d /\ d < ec sg j 3) (hD : -(ec sg j 3) <= ec sg j c - bgn s sg c j /\ ec sg j c - bgn s sg c j <= ec sg j 3) :
 (0 <= ec sg j c - bgn s sg c j -> 0 <= ptAt s sg c (plen (sg.take j) + (d + 1)) - ptAt s sg c (plen (sg.take j) + d) /\ ptAt s sg c (plen (sg.take j) + (d + 1)) - ptAt s sg c (plen (sg.take j) + d) <= 1) /\
 (ec sg j c - bgn s sg c j <= 0 -> -1 <= ptAt s sg c (plen (sg.take j) + (d + 1)) - ptAt s sg c (plen (sg.take j) + d) /\ ptAt s sg c (plen (sg.take j) + (d + 1)) - ptAt s sg c (plen (sg.take j) + d) <= 0) := by
 rw [ptAt_seg h hj (by omega), ptAt_seg h hj (by omega)]
 have := rnd_step (D := ec sg j c - bgn s sg c j) (L := ec sg j 3) (d := d) (by have := (h.2 j hj).1; omega) hD
 refine ⟨fun h => ?_, fun h => ?_⟩
 . have := this.1 h; omega
 . have := this.2 h; omega
theorem pos_split {sg : List (List Int)} (h : okLen sg) {p : Int} (hp : 0 <= p) : ∀ n, n <= sg.length -> p < plen (sg.take n) -> ∃ j d, j < n /\ p = plen (sg.take j) + d /\ 0 <= d /\ d < ec sg j 3
 | 0, _, hlt => by
  have : plen (sg.take 0) = 0 := rfl
  omega
 | n + 1, hn, hlt => by
  rw [plen_take_succ sg n (by omega)] at hlt
  by_cases h1 : p < plen (sg.take n)
  . obtain ⟨j, d, a, b⟩ := pos_split h hp n (by omega) h1
    exact ⟨j, d, by omega, b⟩
  . exact ⟨n, p - plen (sg.take n), by omega, by omega, by omega, by omega⟩
theorem okSegs_D {s0 s1 s2 : Int} {sg : List (List Int)} (h : okSegs s0 s1 s2 sg) {j : Nat} (hj : j < sg.length) :
 (-(ec sg j 3) <= ec sg j 0 - bgn s0 sg 0 j /\ ec sg j 0 - bgn s0 sg 0 j <= ec sg j 3) /\ (-(ec sg j 3) <= ec sg j 1 - bgn s1 sg 1 j /\ ec sg j 1 - bgn s1 sg 1 j <= ec sg j 3) /\ (-(ec sg j 3) <= ec sg j 2 - bgn s2 sg 2 j /\ ec sg j 2 - bgn s2 sg 2 j <= ec sg j 3) := (h j hj).2.2
theorem ptAt_lip {s : Int} {sg : List (List Int)} {c : Nat} (h : okLen sg) (hD : ∀ j, j < sg.length -> -(ec sg j 3) <= ec sg j c - bgn s sg c j /\ ec sg j c - bgn s sg c j <= ec sg j 3) {p : Int} (hp : 0 <= p /\ p < plen sg) :
 -1 <= ptAt s sg c (p + 1) - ptAt s sg c p /\ ptAt s sg c (p + 1) - ptAt s sg c p <= 1 := by
 obtain ⟨j, d, h1, h2, h3⟩ := pos_split h hp.1 sg.length (Nat.le_refl _) (by rw [List.take_length]; exact hp.2)
 have := ptAt_dir (c := c) (s := s) h h1 h3 (hD j h1)
 rw [show p + 1 = plen (sg.take j) + (d + 1) by omega, h2]
 by_cases h0 : 0 <= ec sg j c - bgn s sg c j
 . have := this.1 h0; omega
 . have := this.2 (by omega); omega
theorem fc1_pm {a b m d : Int} (hd : pm d) : pm (fc1 a b m d) := by
 unfold fc1 pm at *
 split
 . exact .inl rfl
 . split
   . exact .inr rfl
   . exact hd
theorem sl1_ge (a b m n : Int) : n <= sl1 a b m n /\ (a ≠ b -> m <= sl1 a b m n) := by unfold sl1; split <;> omega
theorem slk_ge (b0 b1 b2 w0 w1 w2 d0 d1 d2 : Int) : (w0 ≠ d0 -> b0 <= slk b0 b1 b2 w0 w1 w2 d0 d1 d2) /\ (w1 ≠ d1 -> b1 <= slk b0 b1 b2 w0 w1 w2 d0 d1 d2) /\ (w2 ≠ d2 -> b2 <= slk b0 b1 b2 w0 w1 w2 d0 d1 d2) := by
 unfold slk
 have h0 := sl1_ge w0 d0 b0 0
 have h1 := sl1_ge w1 d1 b1 (sl1 w0 d0 b0 0)
 have h2 := sl1_ge w2 d2 b2 (sl1 w1 d1 b1 (sl1 w0 d0 b0 0))
 exact ⟨fun h => by have := h0.2 h; omega, fun h => by have := h1.2 h; omega, h2.2⟩
theorem bsh_any {b a n : Int} (h : a = n ∨ b = 0) : bsh b n = bsh b a := by
 rcases h with rfl | rfl
 . rfl
 . unfold bsh; split <;> split <;> rfl
theorem moveStep {s0 s1 s2 : Int} {sgs : List (List Int)} {b0 b1 b2 d0 d1 d2 f m ln U p a0 a1 a2 n0 n1 n2 : Int} {pk : List (List Int)}
 (h : legOK s0 s1 s2 sgs b0 b1 b2 d0 d1 d2 f m pk ln p a0 a1 a2) (ha : (a0 = n0 ∨ b0 = 0) /\ (a1 = n1 ∨ b1 = 0) /\ (a2 = n2 ∨ b2 = 0)) (hn : pm n0 /\ pm n1 /\ pm n2) (hm : pm m) (hU : 1 <= U) (hp : 0 <= p /\ p <= 18014398509481984)
 (hs : ∀ v, 1 <= v /\ v <= U -> (0 <= p + m * v /\ p + m * v <= plen sgs) /\ (0 <= p + m * (v - 1) /\ p + m * (v - 1) <= plen sgs) /\
  0 <= n0 * (ptAt s0 sgs 0 (p + m * v) - ptAt s0 sgs 0 (p + m * (v - 1))) /\ 0 <= n1 * (ptAt s1 sgs 1 (p + m * v) - ptAt s1 sgs 1 (p + m * (v - 1))) /\ 0 <= n2 * (ptAt s2 sgs 2 (p + m * v) - ptAt s2 sgs 2 (p + m * (v - 1)))) :
 legOK s0 s1 s2 sgs b0 b1 b2 d0 d1 d2 f m (tadd pk ln [0, U, p, m, n0, n1, n2, n0, n1, n2]).1 (tadd pk ln [0, U, p, m, n0, n1, n2, n0, n1, n2]).2 (p + m * U) n0 n1 n2 := by
 have m0 : m ≠ 0 := by unfold pm at hm; omega
 have m1 : -1 <= m /\ m <= 1 := by unfold pm at hm; omega
 have hT := tadd_okT (q0 := 0) (q4 := n0) (q5 := n1) (q6 := n2) (q7 := n0) (q8 := n1) (q9 := n2) h.1 hU hp m1
 by_cases hc : 0 < pk.length /\ m ≠ 0 /\ ec pk (pk.length - 1) 3 = m /\ ec pk (pk.length - 1) 7 = n0 /\ ec pk (pk.length - 1) 8 = n1 /\ ec pk (pk.length - 1) 9 = n2
 . rw [tadd_more hc] at hT ⊢
   exact set_ok h hc.1 hT hU hn m0 hc.2.2.1 hc.2.2.2.1 hc.2.2.2.2.1 hc.2.2.2.2.2 fun v hv => by
    obtain ⟨q1, q2, q3, q4, q5⟩ := hs v hv
    exact ⟨.inr ⟨rfl, q1, q2, n0, hn.1, rfl, rfl, q3⟩, .inr ⟨rfl, q1, q2, n1, hn.2.1, rfl, rfl, q4⟩, .inr ⟨rfl, q1, q2, n2, hn.2.2, rfl, rfl, q5⟩⟩
 . rw [tadd_app hc] at hT ⊢
   exact app_ok h hT hU hn ⟨by rw [tsh_move m0]; exact bsh_any ha.1, by rw [tsh_move m0]; exact bsh_any ha.2.1, by rw [tsh_move m0]; exact bsh_any ha.2.2⟩ (fun v hv => by
    obtain ⟨q1, q2, q3, q4, q5⟩ := hs v hv
    exact ⟨.inr ⟨rfl, q1, q2, n0, hn.1, tsh_move m0, tsh_move m0, q3⟩, .inr ⟨rfl, q1, q2, n1, hn.2.1, tsh_move m0, tsh_move m0, q4⟩, .inr ⟨rfl, q1, q2, n2, hn.2.2, tsh_move m0, tsh_move m0, q5⟩⟩) ⟨tsh_move m0, tsh_move m0, tsh_move m0⟩
theorem takeStep {s0 s1 s2 : Int} {sgs : List (List Int)} {b0 b1 b2 d0 d1 d2 f m ln U p a0 a1 a2 n0 n1 n2 : Int} {pk : List (List Int)}
 (h : legOK s0 s1 s2 sgs b0 b1 b2 d0 d1 d2 f m pk ln p a0 a1 a2) (hb : okB3 b0 b1 b2) (hn : pm n0 /\ pm n1 /\ pm n2) (hU : 1 <= U) (hp : 0 <= p /\ p <= 18014398509481984) (hg : (a0 ≠ n0 -> b0 <= U) /\ (a1 ≠ n1 -> b1 <= U) /\ (a2 ≠ n2 -> b2 <= U)) :
 legOK s0 s1 s2 sgs b0 b1 b2 d0 d1 d2 f m (tadd pk ln [0, U, p, 0, a0, a1, a2, n0, n1, n2]).1 (tadd pk ln [0, U, p, 0, a0, a1, a2, n0, n1, n2]).2 p n0 n1 n2 := by
 have ha := h.2.2.2.2.1
 have hT := tadd_okT (q0 := 0) (q4 := a0) (q5 := a1) (q6 := a2) (q7 := n0) (q8 := n1) (q9 := n2) h.1 hU hp (show (-1 : Int) <= 0 /\ (0 : Int) <= 1 by decide)
 have hc : ¬ (0 < pk.length /\ (0 : Int) ≠ 0 /\ ec pk (pk.length - 1) 3 = 0 /\ ec pk (pk.length - 1) 7 = n0 /\ ec pk (pk.length - 1) 8 = n1 /\ ec pk (pk.length - 1) 9 = n2) := fun hh => hh.2.1 rfl
 rw [tadd_app hc] at hT ⊢
 have := app_ok h hT hU hn ⟨tsh_zero ha.1 hn.1 hb.1.1, tsh_zero ha.2.1 hn.2.1 hb.2.1.1, tsh_zero ha.2.2 hn.2.2 hb.2.2.1⟩ (fun v hv => ⟨.inl ⟨rfl, tsh_step1 hb.1.1 hv.1⟩, .inl ⟨rfl, tsh_step1 hb.2.1.1 hv.1⟩, .inl ⟨rfl, tsh_step1 hb.2.2.1 hv.1⟩⟩)
  ⟨tsh_end hn.1 hg.1, tsh_end hn.2.1 hg.2.1, tsh_end hn.2.2 hg.2.2⟩
 rw [Int.zero_mul, Int.add_zero] at this
 exact this
theorem fc1_dir1 {a b d x : Int} (h : (0 <= b - a -> 0 <= x) /\ (b - a <= 0 -> x <= 0)) : 0 <= fc1 a b 1 d * x := by
 unfold fc1
 rw [Int.mul_one]
 by_cases h1 : b - a > 0
 . rw [if_pos h1]; have := h.1 (by omega); omega
 . rw [if_neg h1]
   by_cases h2 : b - a < 0
   . rw [if_pos h2]; have := h.2 (by omega); omega
   . rw [if_neg h2]
     have h3 := h.1 (by omega)
     have h4 := h.2 (by omega)
     have : x = 0 := by omega
     rw [this, Int.mul_zero]; exact Int.le_refl _
theorem fc1_dir2 {a b d x : Int} (h : (0 <= b - a -> 0 <= x) /\ (b - a <= 0 -> x <= 0)) : 0 <= fc1 a b (-1) d * (-x) := by
 unfold fc1
 rw [show (b - a) * -1 = -(b - a) by omega]
 by_cases h1 : -(b - a) > 0
 . rw [if_pos h1]; have := h.2 (by omega); omega
 . rw [if_neg h1]
   by_cases h2 : -(b - a) < 0
   . rw [if_pos h2]; have := h.1 (by omega); omega
   . rw [if_neg h2]
     have h3 := h.1 (by omega)
     have h4 := h.2 (by omega)
     have : x = 0 := by omega
     rw [this, Int.neg_zero, Int.mul_zero]; exact Int.le_refl _
def ppos (m f t bg : Int) : Int := if m < 0 then min f (max bg t) else max f (min bg t)
theorem legPut_ok {s0 s1 s2 : Int} {sgs : List (List Int)} {b0 b1 b2 d0 d1 d2 f m low high e n0 n1 n2 p : Int} {x : LegS}
 (h : legOK s0 s1 s2 sgs b0 b1 b2 d0 d1 d2 f m x.pk x.ln p x.a0 x.a1 x.a2) (hb : okB3 b0 b1 b2) (hm : pm m) (hn : pm n0 /\ pm n1 /\ pm n2) (hp : low < high -> p = legS m low high) (hr : low < high -> 0 <= p /\ p <= 18014398509481984)
 (hs : low < high -> ∀ v, 1 <= v /\ v <= high - low -> (0 <= p + m * v /\ p + m * v <= plen sgs) /\ (0 <= p + m * (v - 1) /\ p + m * (v - 1) <= plen sgs) /\
  0 <= n0 * (ptAt s0 sgs 0 (p + m * v) - ptAt s0 sgs 0 (p + m * (v - 1))) /\ 0 <= n1 * (ptAt s1 sgs 1 (p + m * v) - ptAt s1 sgs 1 (p + m * (v - 1))) /\ 0 <= n2 * (ptAt s2 sgs 2 (p + m * v) - ptAt s2 sgs 2 (p + m * (v - 1)))) :
 legOK s0 s1 s2 sgs b0 b1 b2 d0 d1 d2 f m (legPut b0 b1 b2 m low high e n0 n1 n2 x).pk (legPut b0 b1 b2 m low high e n0 n1 n2 x).ln (if low < high then p + m * (high - low) else p)
  (legPut b0 b1 b2 m low high e n0 n1 n2 x).a0 (legPut b0 b1 b2 m low high e n0 n1 n2 x).a1 (legPut b0 b1 b2 m low high e n0 n1 n2 x).a2 := by
 unfold legPut
 by_cases hlh : low < high
 . rw [if_pos hlh, if_pos hlh]
   dsimp only
   rw [<- hp hlh]
   have hg := slk_ge b0 b1 b2 x.a0 x.a1 x.a2 n0 n1 n2
   have hsb := slk_bd hb x.a0 x.a1 x.a2 n0 n1 n2
   unfold legTk
   by_cases hu : slk b0 b1 b2 x.a0 x.a1 x.a2 n0 n1 n2 > 0
   . rw [if_pos hu]
     have t := takeStep h hb hn (by omega) (hr hlh) hg
     exact moveStep t ⟨.inl rfl, .inl rfl, .inl rfl⟩ hn hm (by omega) (hr hlh) (hs hlh)
   . rw [if_neg hu]
     have z : ∀ {a n b : Int}, 0 <= b -> (a ≠ n -> b <= slk b0 b1 b2 x.a0 x.a1 x.a2 n0 n1 n2) -> a = n ∨ b = 0 := fun {a n b} hb0 hh => by
      by_cases e : a = n
      . exact .inl e
      . have := hh e; right; omega
     exact moveStep h ⟨z hb.1.1 hg.1, z hb.2.1.1 hg.2.1, z hb.2.2.1 hg.2.2⟩ hn hm (by omega) (hr hlh) (hs hlh)
 . rw [if_neg hlh, if_neg hlh]
   exact h
theorem legStep_ok {s0 s1 s2 : Int} {sg : List (List Int)} {b0 b1 b2 d0 d1 d2 f t m : Int} {x : LegS} {k : Nat} (hl : okLen sg) (hsg : okSegs s0 s1 s2 sg) (hb : okB3 b0 b1 b2) (hm : m = 1 /\ f <= t ∨ m = -1 /\ t < f) (hk : k < sg.length)
 (hf : 0 <= f /\ f <= plen sg) (ht : 0 <= t /\ t <= plen sg) (h1 : m = 1 -> x.bg = plen (sg.take k)) (h2 : m = -1 -> x.bg = plen (sg.take (sg.length - k)))
 (h : legOK s0 s1 s2 sg b0 b1 b2 d0 d1 d2 f m x.pk x.ln (ppos m f t x.bg) x.a0 x.a1 x.a2) :
 legOK s0 s1 s2 sg b0 b1 b2 d0 d1 d2 f m (legStep s0 s1 s2 sg b0 b1 b2 f t m x k).pk (legStep s0 s1 s2 sg b0 b1 b2 f t m x k).ln (ppos m f t (legStep s0 s1 s2 sg b0 b1 b2 f t m x k).bg)
  (legStep s0 s1 s2 sg b0 b1 b2 f t m x k).a0 (legStep s0 s1 s2 sg b0 b1 b2 f t m x k).a1 (legStep s0 s1 s2 sg b0 b1 b2 f t m x k).a2 := by
 have hpl := plen_le hl
 have ha := h.2.2.2.2.1
 have key : ∃ j : Nat, j < sg.length /\ legI sg.length m k = (j : Int) /\ legLow x.bg (legE sg m x.bg (legI sg.length m k)) f t = max (plen (sg.take j)) (min f t) /\ legHigh x.bg (legE sg m x.bg (legI sg.length m k)) f t = min (plen (sg.take j) + ec sg j 3) (max f t) /\
  (m = 1 -> x.bg = plen (sg.take j) /\ legE sg m x.bg (legI sg.length m k) = plen (sg.take j) + ec sg j 3) /\ (m = -1 -> x.bg = plen (sg.take j) + ec sg j 3 /\ legE sg m x.bg (legI sg.length m k) = plen (sg.take j)) := by
  rcases hm with ⟨rfl, hft⟩ | ⟨rfl, hft⟩
  . have e1 := h1 rfl
    have hi : legI sg.length 1 k = (k : Int) := by unfold legI; rw [if_neg (by decide)]
    have hL := (hl.2 k hk).1
    have hE : legE sg 1 x.bg (legI sg.length 1 k) = plen (sg.take k) + ec sg k 3 := by
     unfold legE; rw [hi, e1]
     show plen (sg.take k) + 1 * ec sg k 3 = _
     omega
    refine ⟨k, hk, hi, ?_, ?_, fun _ => ⟨e1, hE⟩, fun e => by omega⟩
    . unfold legLow; rw [hE, e1]; omega
    . unfold legHigh; rw [hE, e1]; omega
  . have e2 := h2 rfl
    have hi : legI sg.length (-1) k = ((sg.length - 1 - k : Nat) : Int) := by unfold legI; rw [if_pos (by decide)]; omega
    have hj : sg.length - 1 - k < sg.length := by omega
    have hL := (hl.2 _ hj).1
    have tk := plen_take_succ sg _ hj
    rw [show sg.length - 1 - k + 1 = sg.length - k by omega] at tk
    have hE : legE sg (-1) x.bg (legI sg.length (-1) k) = plen (sg.take (sg.length - 1 - k)) := by
     unfold legE; rw [hi, e2, tk]
     show plen (sg.take (sg.length - 1 - k)) + ec sg (sg.length - 1 - k) 3 + -1 * ec sg (sg.length - 1 - k) 3 = _
     omega
    refine ⟨sg.length - 1 - k, hj, hi, ?_, ?_, fun e => by omega, fun _ => ⟨by rw [e2, tk], hE⟩⟩
    . unfold legLow; rw [hE, e2, tk]; omega
    . unfold legHigh; rw [hE, e2, tk]; omega
 obtain ⟨j, hj, hi, hlow, hhigh, k1, k2⟩ := key
 have hB := plen_nonneg hl (show j <= sg.length by omega)
 have hB2 := plen_take_le hl (show j + 1 <= sg.length by omega)
 rw [plen_take_succ sg j hj] at hB2
 have hL := (hl.2 j hj).1
 have D := okSegs_D hsg hj
 unfold legStep legSeg
 rw [hi] at hlow hhigh k1 k2 ⊢
 have hjt : ((j : Int)).toNat = j := rfl
 rw [hjt]
 generalize hlo : legLow x.bg (legE sg m x.bg (j : Int)) f t = low at *
 generalize hhi : legHigh x.bg (legE sg m x.bg (j : Int)) f t = high at *
 generalize he : legE sg m x.bg (j : Int) = e at *
 have main := legPut_ok (low := low) (high := high) (e := e) (n0 := fc1 (bgn s0 sg 0 (j : Int)) (ec sg j 0) m x.a0) (n1 := fc1 (bgn s1 sg 1 (j : Int)) (ec sg j 1) m x.a1) (n2 := fc1 (bgn s2 sg 2 (j : Int)) (ec sg j 2) m x.a2) h hb (by unfold pm; omega)
  ⟨fc1_pm ha.1, fc1_pm ha.2.1, fc1_pm ha.2.2⟩ (fun hlh => by
   unfold ppos legS
   rcases hm with ⟨rfl, hft⟩ | ⟨rfl, hft⟩
   . have := (k1 rfl).1
     rw [if_neg (by decide), if_neg (by decide)]; omega
   . have := (k2 rfl).1
     rw [if_pos (by decide), if_pos (by decide)]; omega) (fun hlh => by
   unfold ppos
   split <;> omega) (fun hlh v hv => by
   rcases hm with ⟨rfl, hft⟩ | ⟨rfl, hft⟩
   . have e1 := (k1 rfl).1
     have ep : ppos 1 f t x.bg = low := by unfold ppos; rw [if_neg (by decide)]; omega
     rw [ep]
     have q1 : low + 1 * v = plen (sg.take j) + (low + v - 1 - plen (sg.take j) + 1) := by omega
     have q2 : low + 1 * (v - 1) = plen (sg.take j) + (low + v - 1 - plen (sg.take j)) := by omega
     have hd : 0 <= low + v - 1 - plen (sg.take j) /\ low + v - 1 - plen (sg.take j) < ec sg j 3 := by omega
     rw [q1, q2]
     have r0 := ptAt_dir (c := 0) (s := s0) hl hj hd D.1
     have r1 := ptAt_dir (c := 1) (s := s1) hl hj hd D.2.1
     have r2 := ptAt_dir (c := 2) (s := s2) hl hj hd D.2.2
     exact ⟨by omega, by omega, fc1_dir1 ⟨fun g => (r0.1 g).1, fun g => (r0.2 g).2⟩, fc1_dir1 ⟨fun g => (r1.1 g).1, fun g => (r1.2 g).2⟩, fc1_dir1 ⟨fun g => (r2.1 g).1, fun g => (r2.2 g).2⟩⟩
   . have e1 := (k2 rfl).1
     have ep : ppos (-1) f t x.bg = high := by unfold ppos; rw [if_pos (by decide)]; omega
     rw [ep]
     have q1 : high + -1 * v = plen (sg.take j) + (high - v - plen (sg.take j)) := by omega
     have q2 : high + -1 * (v - 1) = plen (sg.take j) + (high - v - plen (sg.take j) + 1) := by omega
     have hd : 0 <= high - v - plen (sg.take j) /\ high - v - plen (sg.take j) < ec sg j 3 := by omega
     rw [q1, q2]
     have r0 := ptAt_dir (c := 0) (s := s0) hl hj hd D.1
     have r1 := ptAt_dir (c := 1) (s := s1) hl hj hd D.2.1
     have r2 := ptAt_dir (c := 2) (s := s2) hl hj hd D.2.2
     have ng : ∀ {n a b : Int}, 0 <= n * (-(a - b)) -> 0 <= n * (b - a) := fun {n a b} g => by rw [show b - a = -(a - b) by omega]; exact g
     exact ⟨by omega, by omega, ng (fc1_dir2 ⟨fun g => (r0.1 g).1, fun g => (r0.2 g).2⟩), ng (fc1_dir2 ⟨fun g => (r1.1 g).1, fun g => (r1.2 g).2⟩), ng (fc1_dir2 ⟨fun g => (r2.1 g).1, fun g => (r2.2 g).2⟩)⟩)
 have ebg : (legPut b0 b1 b2 m low high e (fc1 (bgn s0 sg 0 (j : Int)) (ec sg j 0) m x.a0) (fc1 (bgn s1 sg 1 (j : Int)) (ec sg j 1) m x.a1) (fc1 (bgn s2 sg 2 (j : Int)) (ec sg j 2) m x.a2) x).bg = e := by unfold legPut; split <;> rfl
 rw [ebg]
 have epos : ppos m f t e = if low < high then ppos m f t x.bg + m * (high - low) else ppos m f t x.bg := by
  rcases hm with ⟨rfl, hft⟩ | ⟨rfl, hft⟩
  . have := k1 rfl
    have g : ∀ b, ppos 1 f t b = max f (min b t) := fun b => by unfold ppos; rw [if_neg (by decide)]
    rw [g, g]
    split <;> omega
  . have := k2 rfl
    have g : ∀ b, ppos (-1) f t b = min f (max b t) := fun b => by unfold ppos; rw [if_pos (by decide)]
    rw [g, g]
    split <;> omega
 rw [epos]
 exact main
theorem legK_ok {s0 s1 s2 : Int} {sg : List (List Int)} {b0 b1 b2 d0 d1 d2 f t m : Int} {x : LegS} (hl : okLen sg) (hsg : okSegs s0 s1 s2 sg) (hb : okB3 b0 b1 b2) (hm : m = 1 /\ f <= t ∨ m = -1 /\ t < f)
 (hf : 0 <= f /\ f <= plen sg) (ht : 0 <= t /\ t <= plen sg) (hJ : legJ sg m 0 x) (h : legOK s0 s1 s2 sg b0 b1 b2 d0 d1 d2 f m x.pk x.ln (ppos m f t x.bg) x.a0 x.a1 x.a2) : ∀ k, k <= sg.length ->
 legOK s0 s1 s2 sg b0 b1 b2 d0 d1 d2 f m (legK s0 s1 s2 sg b0 b1 b2 f t m x k).pk (legK s0 s1 s2 sg b0 b1 b2 f t m x k).ln (ppos m f t (legK s0 s1 s2 sg b0 b1 b2 f t m x k).bg)
  (legK s0 s1 s2 sg b0 b1 b2 f t m x k).a0 (legK s0 s1 s2 sg b0 b1 b2 f t m x k).a1 (legK s0 s1 s2 sg b0 b1 b2 f t m x k).a2
 | 0, _ => h
 | k + 1, hk => by
  have ih := legK_ok hl hsg hb hm hf ht hJ h k (by omega)
  have J := legJ_all (s0 := s0) (s1 := s1) (s2 := s2) (f := f) (t := t) hl hb (by omega) hJ k (by omega)
  exact legStep_ok hl hsg hb hm (by omega) hf ht J.2.2.2.1 J.2.2.2.2 ih
theorem leg_all {s0 s1 s2 : Int} {sg : List (List Int)} {b0 b1 b2 d0 d1 d2 f t : Int} (hl : okLen sg) (hsg : okSegs s0 s1 s2 sg) (hb : okB3 b0 b1 b2) (hd : pm d0 /\ pm d1 /\ pm d2) (hf : 0 <= f /\ f <= plen sg) (ht : 0 <= t /\ t <= plen sg) :
 legOK s0 s1 s2 sg b0 b1 b2 d0 d1 d2 f (legM f t) (leg s0 s1 s2 sg b0 b1 b2 d0 d1 d2 f t).pk (leg s0 s1 s2 sg b0 b1 b2 d0 d1 d2 f t).ln t
  (leg s0 s1 s2 sg b0 b1 b2 d0 d1 d2 f t).a0 (leg s0 s1 s2 sg b0 b1 b2 d0 d1 d2 f t).a1 (leg s0 s1 s2 sg b0 b1 b2 d0 d1 d2 f t).a2 := by
 have hm : legM f t = 1 /\ f <= t ∨ legM f t = -1 /\ t < f := by unfold legM; split <;> omega
 have hJ : legJ sg (legM f t) 0 ⟨[], 0, d0, d1, d2, if legM f t < 0 then plen sg else 0⟩ := by
  refine ⟨⟨Int.le_refl _, by dsimp only; omega⟩, by simp, fun j hj => by simp at hj, fun e => ?_, fun e => ?_⟩
  . rw [e]; rfl
  . rw [e]
    show plen sg = plen (sg.take (sg.length - 0))
    simp
 have h0 : legOK s0 s1 s2 sg b0 b1 b2 d0 d1 d2 f (legM f t) [] 0 f d0 d1 d2 :=
  ⟨⟨fun _ => rfl, fun h => by simp at h, fun j hj => by simp at hj, fun j hj => by simp at hj⟩, Int.le_refl _, rfl, rfl, hd, ⟨rfl, rfl, rfl⟩, ⟨rfl, rfl, rfl⟩, fun u hu => by omega⟩
 have e0 : ppos (legM f t) f t (if legM f t < 0 then plen sg else 0) = f := by
  unfold ppos
  rcases hm with ⟨e, h⟩ | ⟨e, h⟩
  . rw [e, if_neg (by decide), if_neg (by decide)]; omega
  . rw [e, if_pos (by decide), if_pos (by decide)]; omega
 have main := legK_ok (d0 := d0) (d1 := d1) (d2 := d2) (x := ⟨[], 0, d0, d1, d2, if legM f t < 0 then plen sg else 0⟩) hl hsg hb hm hf ht hJ (by dsimp only; rw [e0]; exact h0) sg.length (Nat.le_refl _)
 have J := legJ_all (s0 := s0) (s1 := s1) (s2 := s2) (f := f) (t := t) hl hb (by omega) hJ sg.length (Nat.le_refl _)
 have e1 : ppos (legM f t) f t (leg s0 s1 s2 sg b0 b1 b2 d0 d1 d2 f t).bg = t := by
  unfold leg ppos
  rcases hm with ⟨e, h⟩ | ⟨e, h⟩
  . have := J.2.2.2.1 e
    rw [List.take_length] at this
    rw [if_neg (by omega)]
    rw [this]; omega
  . have := J.2.2.2.2 e
    rw [Nat.sub_self] at this
    rw [if_pos (by omega)]
    rw [this]
    have z : plen (sg.take 0) = 0 := rfl
    omega
 unfold leg at e1 ⊢
 rw [e1] at main
 exact main
end Go.Proofs.YtneingpnkdeooaaGreat
namespace U
open Go
def nomi (st og sg : Int) (pt : List (List Int)) (s : Int) (sgs : List (List Int)) (c : Nat) (p : Int) : Int := mot st og sg pt (ptAt s sgs c p)
end U
namespace Go.Proofs.YtneingpnkdeooaaGreat
open Go Go.HL U
attribute [local irreducible] hfun bodyT fragT
theorem lfA_cons (r : List Int) (l : List (List Int)) (i s : Int) : lfA (r :: l) i s = if s < r.getD 3 0 then (i, s) else lfA l (i + 1) (s - r.getD 3 0) := rfl
theorem ptAt_b3 {s0 s1 s2 : Int} {sg mk : List (List Int)} (h : okPath s0 s1 s2 sg mk) (p : Int) : (-536870912 <= ptAt s0 sg 0 p /\ ptAt s0 sg 0 p <= 536870912) /\ (-536870912 <= ptAt s1 sg 1 p /\ ptAt s1 sg 1 p <= 536870912) /\ (-536870912 <= ptAt s2 sg 2 p /\ ptAt s2 sg 2 p <= 536870912) := by
 have hl := okPath_len h
 obtain ⟨k0, k1, k2, kk⟩ := okPath_pts h
 exact ⟨ptAt_bd hl k0 (fun j hj => (kk j hj).1) p, ptAt_bd hl k1 (fun j hj => (kk j hj).2.1) p, ptAt_bd hl k2 (fun j hj => (kk j hj).2.2) p⟩
end Go.Proofs.YtneingpnkdeooaaGreat
namespace U
open Go
structure PS where
 m0 : Int
 m1 : Int
 m2 : Int
 t0 : Int
 t1 : Int
 t2 : Int
def tbl (bl t m : Int) : Int := min (max t m) (m + bl)
def pstep (b0 b1 b2 : Int) (s : PS) (r : List Int) : PS :=
 if r.getD 2 0 = 1 ∨ r.getD 2 0 = -1 then
  if r.getD 1 0 = 0 then { s with m0 := s.m0 + r.getD 2 0, t0 := tbl b0 s.t0 (s.m0 + r.getD 2 0) }
  else if r.getD 1 0 = 1 then { s with m1 := s.m1 + r.getD 2 0, t1 := tbl b1 s.t1 (s.m1 + r.getD 2 0) }
  else if r.getD 1 0 = 2 then { s with m2 := s.m2 + r.getD 2 0, t2 := tbl b2 s.t2 (s.m2 + r.getD 2 0) }
  else s
 else s
def pall (b0 b1 b2 : Int) (s : PS) (l : List (List Int)) : PS := l.foldl (pstep b0 b1 b2) s
def smallPS (B : Int) (s : PS) : Prop := (-B <= s.m0 /\ s.m0 <= B) /\ (-B <= s.m1 /\ s.m1 <= B) /\ (-B <= s.m2 /\ s.m2 <= B) /\ (-B - 4096 <= s.t0 /\ s.t0 <= B + 4096) /\ (-B - 4096 <= s.t1 /\ s.t1 <= B + 4096) /\ (-B - 4096 <= s.t2 /\ s.t2 <= B + 4096)
def okBl (b : Int) : Prop := 0 <= b /\ b <= 4096
end U
namespace Go.Proofs.YtneingpnkdeooaaGreat
open Go Go.HL U
def STable (hA : List HV) (pA : List (List HC)) : SR :=
 match hA, pA with
 | [.agg [.int .i64 sta, .int .i64 spa, .int .i64 aca, .int .i64 jea, .int .i64 loa, .int .i64 hia, .int .i64 bla, .int .i64 oga, .int .i64 sga, .sl false [4] pta], .ce (.int .i64 t), .ce (.int .i64 m)], [] => .det (okBl bla /\ (-4611686018427387904 <= t /\ t <= 4611686018427387904) /\ (-4611686018427387904 <= m /\ m <= 4611686018427387904)) ⟨.ce (.int .i64 (tbl bla t m)), false, [], []⟩
 | _, _ => .fail
noncomputable def CTable : Ctx := ⟨Tryz.prog, gam [], Tryz.f41.ntmps, [], []⟩
theorem vcTable (sta spa aca jea loa hia bla oga sga t m : Int) (pta : List (List Int)) (Q : Res -> Prop) : (nfun true CTable Tryz.f41 (bodyOf Tryz.f41) [.agg [I6 sta, I6 spa, I6 aca, I6 jea, I6 loa, I6 hia, I6 bla, I6 oga, I6 sga, .sl false [4] pta], .ce (I6 t), .ce (I6 m)] [] Q) =
 (∀ (x1 : Int), x1 = max t m -> (-9223372036854775808 <= m + bla /\ m + bla <= 9223372036854775807) /\ ∀ (x2 : Int), x2 = m + bla -> ∀ (x3 : Int), x3 = min x1 x2 -> Q ⟨.ce (I6 x3), false, [], []⟩) := by kernel_rfl
def okMp (st og sg : Int) (pit : List (List Int)) (p : Int) : Prop := (0 < st /\ st <= 16777216) /\ okC og sg pit /\ -1073741824 <= p /\ p <= 1073741824
def SPStart (hA : List HV) (pA : List (List HC)) : SR :=
 match hA, pA with
 | [.agg [.int .i64 sta, .int .i64 spa, .int .i64 aca, .int .i64 jea, .int .i64 loa, .int .i64 hia, .int .i64 bla, .int .i64 oga, .int .i64 sga, .sl false [4] pta, .int .i64 stb, .int .i64 spb, .int .i64 acb, .int .i64 jeb, .int .i64 lob, .int .i64 hib, .int .i64 blb, .int .i64 ogb, .int .i64 sgb, .sl false [4] ptb, .int .i64 stc, .int .i64 spc, .int .i64 acc, .int .i64 jec, .int .i64 loc, .int .i64 hic, .int .i64 blc, .int .i64 ogc, .int .i64 sgc, .sl false [4] ptc], .agg [.int .i64 p0, .int .i64 p1, .int .i64 p2]], [] =>
  .det (okMp sta oga sga pta p0 /\ okMp stb ogb sgb ptb p1 /\ okMp stc ogc sgc ptc p2)
   ⟨.agg [.int .i64 (mot sta oga sga pta p0), .int .i64 (mot stb ogb sgb ptb p1), .int .i64 (mot stc ogc sgc ptc p2), .int .i64 (mot sta oga sga pta p0), .int .i64 (mot stb ogb sgb ptb p1), .int .i64 (mot stc ogc sgc ptc p2)], false, [], []⟩
 | _, _ => .fail
def tabPStart : List (FuncId × HL.Spec) := [(40, SMotor)]
noncomputable def CPStart : Ctx := ⟨Tryz.prog, gam tabPStart, Tryz.f17.ntmps, [(4000003, unrT [1000002, 1000003, 1000004, 1000005], fun _ => .fail)], []⟩
theorem vcPStart (sta spa aca jea loa hia bla oga sga stb spb acb jeb lob hib blb ogb sgb stc spc acc jec loc hic blc ogc sgc : Int) (pta ptb ptc : List (List Int)) (p0 p1 p2 : Int) (Q : Res -> Prop) : (nfun true CPStart Tryz.f17 (bodyOf Tryz.f17) [.agg [I6 sta, I6 spa, I6 aca, I6 jea, I6 loa, I6 hia, I6 bla, I6 oga, I6 sga, .sl false [4] pta, I6 stb, I6 spb, I6 acb, I6 jeb, I6 lob, I6 hib, I6 blb, I6 ogb, I6 sgb, .sl false [4] ptb, I6 stc, I6 spc, I6 acc, I6 jec, I6 loc, I6 hic, I6 blc, I6 ogc, I6 sgc, .sl false [4] ptc], .agg [I6 p0, I6 p1, I6 p2]] [] Q) =
 (((0 < sta /\ sta <= 16777216) /\ okC oga sga pta /\ -1073741824 <= p0 /\ p0 <= 1073741824) /\ ∀ (x1 : Int), x1 = mot sta oga sga pta p0 -> ((0 < stb /\ stb <= 16777216) /\ okC ogb sgb ptb /\ -1073741824 <= p1 /\ p1 <= 1073741824) /\ ∀ (x2 : Int), x2 = mot stb ogb sgb ptb p1 -> ((0 < stc /\ stc <= 16777216) /\ okC ogc sgc ptc /\ -1073741824 <= p2 /\ p2 <= 1073741824) /\ ∀ (x3 : Int), x3 = mot stc ogc sgc ptc p2 -> Q ⟨.agg [I6 x1, I6 x2, I6 x3, I6 x1, I6 x2, I6 x3], false, [], []⟩) := by kernel_rfl
def SPStep (hA : List HV) (pA : List (List HC)) : SR :=
 match hA, pA with
 | [.agg [.int .i64 sta, .int .i64 spa, .int .i64 aca, .int .i64 jea, .int .i64 loa, .int .i64 hia, .int .i64 bla, .int .i64 oga, .int .i64 sga, .sl false [4] pta, .int .i64 stb, .int .i64 spb, .int .i64 acb, .int .i64 jeb, .int .i64 lob, .int .i64 hib, .int .i64 blb, .int .i64 ogb, .int .i64 sgb, .sl false [4] ptb, .int .i64 stc, .int .i64 spc, .int .i64 acc, .int .i64 jec, .int .i64 loc, .int .i64 hic, .int .i64 blc, .int .i64 ogc, .int .i64 sgc, .sl false [4] ptc], .agg [.int .i64 m0, .int .i64 m1, .int .i64 m2, .int .i64 t0, .int .i64 t1, .int .i64 t2], .ce (.sl false [4, 4, 4] l)], [] =>
  .all ((okBl bla /\ okBl blb /\ okBl blc) /\ smallPS 1152921504606846976 ⟨m0, m1, m2, t0, t1, t2⟩ /\ l.length <= 1152921504606846976) PS (fun x => x = pall bla blb blc ⟨m0, m1, m2, t0, t1, t2⟩ l) (fun x => ⟨.agg [.int .i64 x.m0, .int .i64 x.m1, .int .i64 x.m2, .int .i64 x.t0, .int .i64 x.t1, .int .i64 x.t2], false, [], []⟩)
 | _, _ => .fail
def anStep : LAnn := ⟨[3, 4, 6, 9, 10, 11], [3, 4, 6], [1000003, 1000004, 1000006], false⟩
def LPStep (v : LV) : LR :=
 match v with
 | ([.ce (.ptr 1000003 0), .ce (.ptr 1000004 0), .ce (.ptr 1000006 0), .ce (.sl false [4, 4, 4] l), .ce (.int .i64 n), .ce (.int .i64 i)], [bx, bp, bz]) =>
  match bx with
  | [.int .i64 sta, .int .i64 spa, .int .i64 aca, .int .i64 jea, .int .i64 loa, .int .i64 hia, .int .i64 bla, .int .i64 oga, .int .i64 sga, .sl false [4] pta, .int .i64 stb, .int .i64 spb, .int .i64 acb, .int .i64 jeb, .int .i64 lob, .int .i64 hib, .int .i64 blb, .int .i64 ogb, .int .i64 sgb, .sl false [4] ptb, .int .i64 stc, .int .i64 spc, .int .i64 acc, .int .i64 jec, .int .i64 loc, .int .i64 hic, .int .i64 blc, .int .i64 ogc, .int .i64 sgc, .sl false [4] ptc] =>
   match bp, bz with
   | [.int .i64 m0, .int .i64 m1, .int .i64 m2, .int .i64 t0, .int .i64 t1, .int .i64 t2], [.int .i64 y0, .int .i64 y1, .int .i64 y2, .int .i64 y3, .int .i64 y4, .int .i64 y5] =>
    .all (n = l.length /\ i = 0 /\ (okBl bla /\ okBl blb /\ okBl blc) /\ smallPS 1152921504606846976 ⟨m0, m1, m2, t0, t1, t2⟩ /\ l.length <= 1152921504606846976) PS (fun x => x = pall bla blb blc ⟨m0, m1, m2, t0, t1, t2⟩ l) (fun _ => .exit 0)
     (fun x => ([.ce (.ptr 1000003 0), .ce (.ptr 1000004 0), .ce (.ptr 1000006 0)], [[.int .i64 sta, .int .i64 spa, .int .i64 aca, .int .i64 jea, .int .i64 loa, .int .i64 hia, .int .i64 bla, .int .i64 oga, .int .i64 sga, .sl false [4] pta, .int .i64 stb, .int .i64 spb, .int .i64 acb, .int .i64 jeb, .int .i64 lob, .int .i64 hib, .int .i64 blb, .int .i64 ogb, .int .i64 sgb, .sl false [4] ptb, .int .i64 stc, .int .i64 spc, .int .i64 acc, .int .i64 jec, .int .i64 loc, .int .i64 hic, .int .i64 blc, .int .i64 ogc, .int .i64 sgc, .sl false [4] ptc], [.int .i64 x.m0, .int .i64 x.m1, .int .i64 x.m2, .int .i64 x.t0, .int .i64 x.t1, .int .i64 x.t2], [.int .i64 y0, .int .i64 y1, .int .i64 y2, .int .i64 y3, .int .i64 y4, .int .i64 y5]]))
   | _, _ => .fail
  | _ => .fail
 | _ => .fail
def tabPStep : List (FuncId × HL.Spec) := [(41, STable)]
noncomputable def CPStep : Ctx := ⟨Tryz.prog, gam tabPStep, Tryz.f18.ntmps, [(2, anStep, LPStep)], [spl 5 1000008 1 6]⟩
theorem vbPStep (sta spa aca jea loa hia bla oga sga stb spb acb jeb lob hib blb ogb sgb stc spc acc jec loc hic blc ogc sgc : Int) (pta ptb ptc : List (List Int)) (m0 m1 m2 t0 t1 t2 : Int) (n i y0 y1 y2 y3 y4 y5 : Int) (l : List (List Int)) (K : HEx -> LV -> Prop) : (nbodyT true CPStep anStep (nthLoop Tryz.f18 0) (([.ce (.ptr 1000003 0), .ce (.ptr 1000004 0), .ce (.ptr 1000006 0), .ce (.sl false [4, 4, 4] l), .ce (I6 n), .ce (I6 i)], [[I6 sta, I6 spa, I6 aca, I6 jea, I6 loa, I6 hia, I6 bla, I6 oga, I6 sga, .sl false [4] pta, I6 stb, I6 spb, I6 acb, I6 jeb, I6 lob, I6 hib, I6 blb, I6 ogb, I6 sgb, .sl false [4] ptb, I6 stc, I6 spc, I6 acc, I6 jec, I6 loc, I6 hic, I6 blc, I6 ogc, I6 sgc, .sl false [4] ptc], [I6 m0, I6 m1, I6 m2, I6 t0, I6 t1, I6 t2], [I6 y0, I6 y1, I6 y2, I6 y3, I6 y4, I6 y5]])) K) =
 ((decide (i < n) = true -> (0 <= i /\ i < (l.length : Int)) /\ (decide (ec l i.toNat 1 < 0) = true -> (-9223372036854775808 <= i + 1 /\ i + 1 <= 9223372036854775807) /\ ∀ (x1 : Int), x1 = i + 1 -> K .normal ([.ce (.ptr 1000003 0), .ce (.ptr 1000004 0), .ce (.ptr 1000006 0), .ce (.sl false [4, 4, 4] l), .ce (I6 n), .ce (I6 x1)], [[I6 sta, I6 spa, I6 aca, I6 jea, I6 loa, I6 hia, I6 bla, I6 oga, I6 sga, .sl false [4] pta, I6 stb, I6 spb, I6 acb, I6 jeb, I6 lob, I6 hib, I6 blb, I6 ogb, I6 sgb, .sl false [4] ptb, I6 stc, I6 spc, I6 acc, I6 jec, I6 loc, I6 hic, I6 blc, I6 ogc, I6 sgc, .sl false [4] ptc], [I6 m0, I6 m1, I6 m2, I6 t0, I6 t1, I6 t2], [I6 y0, I6 y1, I6 y2, I6 y3, I6 y4, I6 y5]])) /\
 (decide (ec l i.toNat 1 < 0) = false -> (decide (ec l i.toNat 1 > 2) = true -> (-9223372036854775808 <= i + 1 /\ i + 1 <= 9223372036854775807) /\ ∀ (x2 : Int), x2 = i + 1 -> K .normal ([.ce (.ptr 1000003 0), .ce (.ptr 1000004 0), .ce (.ptr 1000006 0), .ce (.sl false [4, 4, 4] l), .ce (I6 n), .ce (I6 x2)], [[I6 sta, I6 spa, I6 aca, I6 jea, I6 loa, I6 hia, I6 bla, I6 oga, I6 sga, .sl false [4] pta, I6 stb, I6 spb, I6 acb, I6 jeb, I6 lob, I6 hib, I6 blb, I6 ogb, I6 sgb, .sl false [4] ptb, I6 stc, I6 spc, I6 acc, I6 jec, I6 loc, I6 hic, I6 blc, I6 ogc, I6 sgc, .sl false [4] ptc], [I6 m0, I6 m1, I6 m2, I6 t0, I6 t1, I6 t2], [I6 y0, I6 y1, I6 y2, I6 y3, I6 y4, I6 y5]])) /\
 (decide (ec l i.toNat 1 > 2) = false -> ((ec l i.toNat 2 != 1) = true -> ((ec l i.toNat 2 != (-1 : Int)) = true -> (-9223372036854775808 <= i + 1 /\ i + 1 <= 9223372036854775807) /\ ∀ (x3 : Int), x3 = i + 1 -> K .normal ([.ce (.ptr 1000003 0), .ce (.ptr 1000004 0), .ce (.ptr 1000006 0), .ce (.sl false [4, 4, 4] l), .ce (I6 n), .ce (I6 x3)], [[I6 sta, I6 spa, I6 aca, I6 jea, I6 loa, I6 hia, I6 bla, I6 oga, I6 sga, .sl false [4] pta, I6 stb, I6 spb, I6 acb, I6 jeb, I6 lob, I6 hib, I6 blb, I6 ogb, I6 sgb, .sl false [4] ptb, I6 stc, I6 spc, I6 acc, I6 jec, I6 loc, I6 hic, I6 blc, I6 ogc, I6 sgc, .sl false [4] ptc], [I6 m0, I6 m1, I6 m2, I6 t0, I6 t1, I6 t2], [I6 y0, I6 y1, I6 y2, I6 y3, I6 y4, I6 y5]])) /\
 ((ec l i.toNat 2 != (-1 : Int)) = false -> (ec l i.toNat 1 = 0 -> (-9223372036854775808 <= m0 + ec l i.toNat 2 /\ m0 + ec l i.toNat 2 <= 9223372036854775807) /\ ∀ (x4 : Int), x4 = m0 + ec l i.toNat 2 -> (okBl bla /\ (-4611686018427387904 <= t0 /\ t0 <= 4611686018427387904) /\ -4611686018427387904 <= x4 /\ x4 <= 4611686018427387904) /\ ∀ (x5 : Int), x5 = tbl bla t0 x4 -> (-9223372036854775808 <= i + 1 /\ i + 1 <= 9223372036854775807) /\ ∀ (x6 : Int), x6 = i + 1 -> K .normal ([.ce (.ptr 1000003 0), .ce (.ptr 1000004 0), .ce (.ptr 1000006 0), .ce (.sl false [4, 4, 4] l), .ce (I6 n), .ce (I6 x6)], [[I6 sta, I6 spa, I6 aca, I6 jea, I6 loa, I6 hia, I6 bla, I6 oga, I6 sga, .sl false [4] pta, I6 stb, I6 spb, I6 acb, I6 jeb, I6 lob, I6 hib, I6 blb, I6 ogb, I6 sgb, .sl false [4] ptb, I6 stc, I6 spc, I6 acc, I6 jec, I6 loc, I6 hic, I6 blc, I6 ogc, I6 sgc, .sl false [4] ptc], [I6 x4, I6 m1, I6 m2, I6 x5, I6 t1, I6 t2], [I6 y0, I6 y1, I6 y2, I6 y3, I6 y4, I6 y5]])) /\
 (ec l i.toNat 1 ≠ (0 : Int) -> (ec l i.toNat 1 = 1 -> (-9223372036854775808 <= m1 + ec l i.toNat 2 /\ m1 + ec l i.toNat 2 <= 9223372036854775807) /\ ∀ (x7 : Int), x7 = m1 + ec l i.toNat 2 -> (okBl blb /\ (-4611686018427387904 <= t1 /\ t1 <= 4611686018427387904) /\ -4611686018427387904 <= x7 /\ x7 <= 4611686018427387904) /\ ∀ (x8 : Int), x8 = tbl blb t1 x7 -> (-9223372036854775808 <= i + 1 /\ i + 1 <= 9223372036854775807) /\ ∀ (x9 : Int), x9 = i + 1 -> K .normal ([.ce (.ptr 1000003 0), .ce (.ptr 1000004 0), .ce (.ptr 1000006 0), .ce (.sl false [4, 4, 4] l), .ce (I6 n), .ce (I6 x9)], [[I6 sta, I6 spa, I6 aca, I6 jea, I6 loa, I6 hia, I6 bla, I6 oga, I6 sga, .sl false [4] pta, I6 stb, I6 spb, I6 acb, I6 jeb, I6 lob, I6 hib, I6 blb, I6 ogb, I6 sgb, .sl false [4] ptb, I6 stc, I6 spc, I6 acc, I6 jec, I6 loc, I6 hic, I6 blc, I6 ogc, I6 sgc, .sl false [4] ptc], [I6 m0, I6 x7, I6 m2, I6 t0, I6 x8, I6 t2], [I6 y0, I6 y1, I6 y2, I6 y3, I6 y4, I6 y5]])) /\
 (ec l i.toNat 1 ≠ (1 : Int) -> (ec l i.toNat 1 = 2 -> (-9223372036854775808 <= m2 + ec l i.toNat 2 /\ m2 + ec l i.toNat 2 <= 9223372036854775807) /\ ∀ (x10 : Int), x10 = m2 + ec l i.toNat 2 -> (okBl blc /\ (-4611686018427387904 <= t2 /\ t2 <= 4611686018427387904) /\ -4611686018427387904 <= x10 /\ x10 <= 4611686018427387904) /\ ∀ (x11 : Int), x11 = tbl blc t2 x10 -> (-9223372036854775808 <= i + 1 /\ i + 1 <= 9223372036854775807) /\ ∀ (x12 : Int), x12 = i + 1 -> K .normal ([.ce (.ptr 1000003 0), .ce (.ptr 1000004 0), .ce (.ptr 1000006 0), .ce (.sl false [4, 4, 4] l), .ce (I6 n), .ce (I6 x12)], [[I6 sta, I6 spa, I6 aca, I6 jea, I6 loa, I6 hia, I6 bla, I6 oga, I6 sga, .sl false [4] pta, I6 stb, I6 spb, I6 acb, I6 jeb, I6 lob, I6 hib, I6 blb, I6 ogb, I6 sgb, .sl false [4] ptb, I6 stc, I6 spc, I6 acc, I6 jec, I6 loc, I6 hic, I6 blc, I6 ogc, I6 sgc, .sl false [4] ptc], [I6 m0, I6 m1, I6 x10, I6 t0, I6 t1, I6 x11], [I6 y0, I6 y1, I6 y2, I6 y3, I6 y4, I6 y5]])) /\
 (ec l i.toNat 1 ≠ (2 : Int) -> False))))) /\ ((ec l i.toNat 2 != 1) = false -> (ec l i.toNat 1 = 0 -> (-9223372036854775808 <= m0 + ec l i.toNat 2 /\ m0 + ec l i.toNat 2 <= 9223372036854775807) /\ ∀ (x13 : Int), x13 = m0 + ec l i.toNat 2 -> (okBl bla /\ (-4611686018427387904 <= t0 /\ t0 <= 4611686018427387904) /\ -4611686018427387904 <= x13 /\ x13 <= 4611686018427387904) /\ ∀ (x14 : Int), x14 = tbl bla t0 x13 -> (-9223372036854775808 <= i + 1 /\ i + 1 <= 9223372036854775807) /\ ∀ (x15 : Int), x15 = i + 1 -> K .normal ([.ce (.ptr 1000003 0), .ce (.ptr 1000004 0), .ce (.ptr 1000006 0), .ce (.sl false [4, 4, 4] l), .ce (I6 n), .ce (I6 x15)], [[I6 sta, I6 spa, I6 aca, I6 jea, I6 loa, I6 hia, I6 bla, I6 oga, I6 sga, .sl false [4] pta, I6 stb, I6 spb, I6 acb, I6 jeb, I6 lob, I6 hib, I6 blb, I6 ogb, I6 sgb, .sl false [4] ptb, I6 stc, I6 spc, I6 acc, I6 jec, I6 loc, I6 hic, I6 blc, I6 ogc, I6 sgc, .sl false [4] ptc], [I6 x13, I6 m1, I6 m2, I6 x14, I6 t1, I6 t2], [I6 y0, I6 y1, I6 y2, I6 y3, I6 y4, I6 y5]])) /\
 (ec l i.toNat 1 ≠ (0 : Int) -> (ec l i.toNat 1 = 1 -> (-9223372036854775808 <= m1 + ec l i.toNat 2 /\ m1 + ec l i.toNat 2 <= 9223372036854775807) /\ ∀ (x16 : Int), x16 = m1 + ec l i.toNat 2 -> (okBl blb /\ (-4611686018427387904 <= t1 /\ t1 <= 4611686018427387904) /\ -4611686018427387904 <= x16 /\ x16 <= 4611686018427387904) /\ ∀ (x17 : Int), x17 = tbl blb t1 x16 -> (-9223372036854775808 <= i + 1 /\ i + 1 <= 9223372036854775807) /\ ∀ (x18 : Int), x18 = i + 1 -> K .normal ([.ce (.ptr 1000003 0), .ce (.ptr 1000004 0), .ce (.ptr 1000006 0), .ce (.sl false [4, 4, 4] l), .ce (I6 n), .ce (I6 x18)], [[I6 sta, I6 spa, I6 aca, I6 jea, I6 loa, I6 hia, I6 bla, I6 oga, I6 sga, .sl false [4] pta, I6 stb, I6 spb, I6 acb, I6 jeb, I6 lob, I6 hib, I6 blb, I6 ogb, I6 sgb, .sl false [4] ptb, I6 stc, I6 spc, I6 acc, I6 jec, I6 loc, I6 hic, I6 blc, I6 ogc, I6 sgc, .sl false [4] ptc], [I6 m0, I6 x16, I6 m2, I6 t0, I6 x17, I6 t2], [I6 y0, I6 y1, I6 y2, I6 y3, I6 y4, I6 y5]])) /\
 (ec l i.toNat 1 ≠ (1 : Int) -> (ec l i.toNat 1 = 2 -> (-9223372036854775808 <= m2 + ec l i.toNat 2 /\ m2 + ec l i.toNat 2 <= 9223372036854775807) /\ ∀ (x19 : Int), x19 = m2 + ec l i.toNat 2 -> (okBl blc /\ (-4611686018427387904 <= t2 /\ t2 <= 4611686018427387904) /\ -4611686018427387904 <= x19 /\ x19 <= 4611686018427387904) /\ ∀ (x20 : Int), x20 = tbl blc t2 x19 -> (-9223372036854775808 <= i + 1 /\ i + 1 <= 9223372036854775807) /\ ∀ (x21 : Int), x21 = i + 1 -> K .normal ([.ce (.ptr 1000003 0), .ce (.ptr 1000004 0), .ce (.ptr 1000006 0), .ce (.sl false [4, 4, 4] l), .ce (I6 n), .ce (I6 x21)], [[I6 sta, I6 spa, I6 aca, I6 jea, I6 loa, I6 hia, I6 bla, I6 oga, I6 sga, .sl false [4] pta, I6 stb, I6 spb, I6 acb, I6 jeb, I6 lob, I6 hib, I6 blb, I6 ogb, I6 sgb, .sl false [4] ptb, I6 stc, I6 spc, I6 acc, I6 jec, I6 loc, I6 hic, I6 blc, I6 ogc, I6 sgc, .sl false [4] ptc], [I6 m0, I6 m1, I6 x19, I6 t0, I6 t1, I6 x20], [I6 y0, I6 y1, I6 y2, I6 y3, I6 y4, I6 y5]])) /\
 (ec l i.toNat 1 ≠ (2 : Int) -> False))))))) /\ (decide (i < n) = false -> K (.exit 0) ([.ce (.ptr 1000003 0), .ce (.ptr 1000004 0), .ce (.ptr 1000006 0)], [[I6 sta, I6 spa, I6 aca, I6 jea, I6 loa, I6 hia, I6 bla, I6 oga, I6 sga, .sl false [4] pta, I6 stb, I6 spb, I6 acb, I6 jeb, I6 lob, I6 hib, I6 blb, I6 ogb, I6 sgb, .sl false [4] ptb, I6 stc, I6 spc, I6 acc, I6 jec, I6 loc, I6 hic, I6 blc, I6 ogc, I6 sgc, .sl false [4] ptc], [I6 m0, I6 m1, I6 m2, I6 t0, I6 t1, I6 t2], [I6 y0, I6 y1, I6 y2, I6 y3, I6 y4, I6 y5]]))) := by kernel_rfl
theorem vcPStep (sta spa aca jea loa hia bla oga sga stb spb acb jeb lob hib blb ogb sgb stc spc acc jec loc hic blc ogc sgc : Int) (pta ptb ptc : List (List Int)) (m0 m1 m2 t0 t1 t2 : Int) (l : List (List Int)) (Q : Res -> Prop) : (nfun true CPStep Tryz.f18 (bodyOf Tryz.f18) [.agg [I6 sta, I6 spa, I6 aca, I6 jea, I6 loa, I6 hia, I6 bla, I6 oga, I6 sga, .sl false [4] pta, I6 stb, I6 spb, I6 acb, I6 jeb, I6 lob, I6 hib, I6 blb, I6 ogb, I6 sgb, .sl false [4] ptb, I6 stc, I6 spc, I6 acc, I6 jec, I6 loc, I6 hic, I6 blc, I6 ogc, I6 sgc, .sl false [4] ptc], .agg [I6 m0, I6 m1, I6 m2, I6 t0, I6 t1, I6 t2], .ce (.sl false [4, 4, 4] l)] [] Q) =
 (((l.length : Int) = (l.length : Int) /\ (0 : Int) = 0 /\ (okBl bla /\ okBl blb /\ okBl blc) /\ smallPS (1152921504606846976 : Int) { m0 := m0, m1 := m1, m2 := m2, t0 := t0, t1 := t1, t2 := t2 } /\ l.length <= 1152921504606846976) /\ ∀ (x : PS), x = pall bla blb blc { m0 := m0, m1 := m1, m2 := m2, t0 := t0, t1 := t1, t2 := t2 } l -> Q ⟨.agg [I6 x.m0, I6 x.m1, I6 x.m2, I6 x.t0, I6 x.t1, I6 x.t2], false, [], []⟩) := by kernel_rfl
end Go.Proofs.YtneingpnkdeooaaGreat
namespace U
theorem tbl_bd {bl t m B : Int} (hb : okBl bl) (ht : -B - 4096 <= t /\ t <= B + 4096) (hm : -B <= m /\ m <= B) : -B - 4096 <= tbl bl t m /\ tbl bl t m <= B + 4096 := by
 unfold tbl okBl at *
 omega
theorem small_up {B : Int} {s : PS} (h : smallPS B s) : smallPS (B + 1) s := by unfold smallPS at *; omega
theorem pstep_small {B b0 b1 b2 : Int} {s : PS} {r : List Int} (h0 : okBl b0) (h1 : okBl b1) (h2 : okBl b2) (h : smallPS B s) : smallPS (B + 1) (pstep b0 b1 b2 s r) := by
 have hh := small_up h
 have hs := hh
 unfold pstep
 unfold smallPS at h hs
 obtain ⟨g0, g1, g2, _⟩ := h
 obtain ⟨a0, a1, a2, c0, c1, c2⟩ := hs
 generalize r.getD 2 0 = d
 generalize r.getD 1 0 = a
 by_cases hd : d = 1 ∨ d = -1
 . rw [if_pos hd]
   have m0 : -(B + 1) <= s.m0 + d /\ s.m0 + d <= B + 1 := by omega
   have m1 : -(B + 1) <= s.m1 + d /\ s.m1 + d <= B + 1 := by omega
   have m2 : -(B + 1) <= s.m2 + d /\ s.m2 + d <= B + 1 := by omega
   by_cases e0 : a = 0
   . rw [if_pos e0]; exact ⟨m0, a1, a2, tbl_bd h0 c0 m0, c1, c2⟩
   rw [if_neg e0]
   by_cases e1 : a = 1
   . rw [if_pos e1]; exact ⟨a0, m1, a2, c0, tbl_bd h1 c1 m1, c2⟩
   rw [if_neg e1]
   by_cases e2 : a = 2
   . rw [if_pos e2]; exact ⟨a0, a1, m2, c0, c1, tbl_bd h2 c2 m2⟩
   rw [if_neg e2]; exact hh
 . rw [if_neg hd]; exact hh
theorem take_next2 {α : Type} (l : List α) {k : Nat} (hk : k < l.length) (d : α) : l.take (k + 1) = l.take k ++ [l.getD k d] := by
 rw [List.take_add_one, List.getElem?_eq_getElem hk]
 simp [List.getD_eq_getElem?_getD, hk]
theorem pall_next (b0 b1 b2 : Int) (s : PS) (l : List (List Int)) {k : Nat} (hk : k < l.length) : pall b0 b1 b2 s (l.take (k + 1)) = pstep b0 b1 b2 (pall b0 b1 b2 s (l.take k)) (l.getD k []) := by
 unfold pall
 rw [take_next2 l hk [], List.foldl_append]
 rfl
theorem pall_small {B b0 b1 b2 : Int} {s : PS} (h0 : okBl b0) (h1 : okBl b1) (h2 : okBl b2) (h : smallPS B s) : ∀ l : List (List Int), smallPS (B + (l.length : Int)) (pall b0 b1 b2 s l) := by
 intro l
 induction l generalizing s B with
 | nil =>
  have e : B + (([] : List (List Int)).length : Int) = B := by simp
  rw [e]; exact h
 | cons r l ih =>
  have := ih (pstep_small (r := r) h0 h1 h2 h)
  have e : B + ((r :: l).length : Int) = B + 1 + (l.length : Int) := by simp; omega
  rw [e]
  exact this
end U
namespace Go.Proofs.YtneingpnkdeooaaGreat
section
open Go Go.HL U
attribute [local irreducible] hfun bodyT fragT
theorem sTable : Sound Tryz.prog 41 STable := by
 refine sound_of (C := CTable) [] Tryz.func41 (by kernel_rfl) (by decide +kernel) (by kernel_rfl) rfl trivial (loops0 (by kernel_rfl)) ?_
 intro hA pA R h
 unfold STable at h
 split at h
 case h_2 => exfalso; exact h
 rename_i sta spa aca jea loa hia bla oga sga pta t m
 refine byVC (vcTable sta spa aca jea loa hia bla oga sga t m pta R) ?_
 obtain ⟨⟨h1, h2, h3⟩, hq⟩ := h
 unfold okBl at h1
 intro x1 e1
 refine ⟨by omega, fun x2 e2 x3 e3 => ?_⟩
 rw [e3, e2, e1]; exact hq
theorem sPStart : Sound Tryz.prog 17 SPStart := by
 refine sound_of (C := CPStart) tabPStart Tryz.func17 (by kernel_rfl) (by decide +kernel) (by kernel_rfl) rfl ⟨sMotor, trivial⟩ (loopsAll (by kernel_rfl)) ?_
 intro hA pA R h
 unfold SPStart at h
 split at h
 case h_2 => exfalso; exact h
 rename_i sta spa aca jea loa hia bla oga sga pta stb spb acb jeb lob hib blb ogb sgb ptb stc spc acc jec loc hic blc ogc sgc ptc p0 p1 p2
 refine byVC (vcPStart sta spa aca jea loa hia bla oga sga stb spb acb jeb lob hib blb ogb sgb stc spc acc jec loc hic blc ogc sgc pta ptb ptc p0 p1 p2 R) ?_
 obtain ⟨⟨h0, h1, h2⟩, hq⟩ := h
 refine ⟨h0, fun x1 e1 => ⟨h1, fun x2 e2 => ⟨h2, fun x3 e3 => ?_⟩⟩⟩
 rw [e1, e2, e3]; exact hq
set_option maxHeartbeats 1600000 in
theorem loopStep : ∀ v Q, (LPStep v).wp Q -> hloop CPStep anStep (nthLoop Tryz.f18 0) v Q := by
 intro v Q h
 unfold LPStep at h
 split at h
 case h_2 => exact h.elim
 rename_i l n i bx bp bz
 split at h
 case h_2 => exact h.elim
 rename_i sta spa aca jea loa hia bla oga sga pta stb spb acb jeb lob hib blb ogb sgb ptb stc spc acc jec loc hic blc ogc sgc ptc
 split at h
 case h_2 => exact h.elim
 rename_i m0 m1 m2 t0 t1 t2 y0 y1 y2 y3 y4 y5
 obtain ⟨⟨hn, hi, ⟨b0, b1, b2⟩, hs, hl⟩, hq⟩ := h
 subst hn hi
 refine hloop_rec (σ := PS × Nat)
  (fun s => ([.ce (.ptr 1000003 0), .ce (.ptr 1000004 0), .ce (.ptr 1000006 0), .ce (.sl false [4, 4, 4] l), .ce (.int .i64 (l.length : Int)), .ce (.int .i64 (s.2 : Int))], [[.int .i64 sta, .int .i64 spa, .int .i64 aca, .int .i64 jea, .int .i64 loa, .int .i64 hia, .int .i64 bla, .int .i64 oga, .int .i64 sga, .sl false [4] pta, .int .i64 stb, .int .i64 spb, .int .i64 acb, .int .i64 jeb, .int .i64 lob, .int .i64 hib, .int .i64 blb, .int .i64 ogb, .int .i64 sgb, .sl false [4] ptb, .int .i64 stc, .int .i64 spc, .int .i64 acc, .int .i64 jec, .int .i64 loc, .int .i64 hic, .int .i64 blc, .int .i64 ogc, .int .i64 sgc, .sl false [4] ptc], [.int .i64 s.1.m0, .int .i64 s.1.m1, .int .i64 s.1.m2, .int .i64 s.1.t0, .int .i64 s.1.t1, .int .i64 s.1.t2], [.int .i64 y0, .int .i64 y1, .int .i64 y2, .int .i64 y3, .int .i64 y4, .int .i64 y5]]))
  (fun s => l.length - s.2)
  (fun s => s.2 <= l.length /\ s.1 = pall bla blb blc ⟨m0, m1, m2, t0, t1, t2⟩ (l.take s.2))
  ?_ (⟨m0, m1, m2, t0, t1, t2⟩, 0) ⟨Nat.zero_le _, rfl⟩
 rintro ⟨⟨m0', m1', m2', t0', t1', t2'⟩, k⟩ ⟨hk, he⟩ K hn hx _
 dsimp only at hk he hn ⊢
 have hsm := pall_small b0 b1 b2 hs (l.take k)
 rw [<- he] at hsm
 have hlt : ((l.take k).length : Int) <= 1152921504606846976 := by rw [List.length_take]; omega
 unfold smallPS at hsm
 dsimp only at hsm
 refine byVB (vbPStep sta spa aca jea loa hia bla oga sga stb spb acb jeb lob hib blb ogb sgb stc spc acc jec loc hic blc ogc sgc pta ptb ptc m0' m1' m2' t0' t1' t2' l.length k y0 y1 y2 y3 y4 y5 l K) ⟨fun g => ?_, fun g => ?_⟩
 . have g := of_decide_eq_true g
   have hkl : k < l.length := by omega
   have fin : ∀ s' : PS, s' = pstep bla blb blc ⟨m0', m1', m2', t0', t1', t2'⟩ (l.getD k []) -> ∀ x : Int, x = (k : Int) + 1 ->
    K .normal ([.ce (.ptr 1000003 0), .ce (.ptr 1000004 0), .ce (.ptr 1000006 0), .ce (.sl false [4, 4, 4] l), .ce (.int .i64 (l.length : Int)), .ce (.int .i64 x)], [[.int .i64 sta, .int .i64 spa, .int .i64 aca, .int .i64 jea, .int .i64 loa, .int .i64 hia, .int .i64 bla, .int .i64 oga, .int .i64 sga, .sl false [4] pta, .int .i64 stb, .int .i64 spb, .int .i64 acb, .int .i64 jeb, .int .i64 lob, .int .i64 hib, .int .i64 blb, .int .i64 ogb, .int .i64 sgb, .sl false [4] ptb, .int .i64 stc, .int .i64 spc, .int .i64 acc, .int .i64 jec, .int .i64 loc, .int .i64 hic, .int .i64 blc, .int .i64 ogc, .int .i64 sgc, .sl false [4] ptc], [.int .i64 s'.m0, .int .i64 s'.m1, .int .i64 s'.m2, .int .i64 s'.t0, .int .i64 s'.t1, .int .i64 s'.t2], [.int .i64 y0, .int .i64 y1, .int .i64 y2, .int .i64 y3, .int .i64 y4, .int .i64 y5]]) := by
    intro s' e x ex
    have := hn (s', k + 1) ⟨hkl, by dsimp only; rw [pall_next _ _ _ _ _ hkl, <- he]; exact e⟩ (by dsimp only; omega)
    rw [ex]
    exact this
   have ea : ec l (Int.toNat (k : Int)) 1 = (l.getD k []).getD 1 0 := rfl
   have ed : ec l (Int.toNat (k : Int)) 2 = (l.getD k []).getD 2 0 := rfl
   rw [ea, ed]
   unfold pstep at fin
   generalize l.getD k [] = r at *
   generalize r.getD 1 0 = a at *
   generalize r.getD 2 0 = d at *
   have up : ∀ x : Int, x = (k : Int) + 1 -> -9223372036854775808 <= (k : Int) + 1 /\ (k : Int) + 1 <= 9223372036854775807 := fun _ _ => by omega
   refine ⟨by omega, fun h1 => ⟨by omega, fun x ex => fin ⟨m0', m1', m2', t0', t1', t2'⟩ ?_ x ex⟩, fun h1 => ⟨fun h2 => ⟨by omega, fun x ex => fin ⟨m0', m1', m2', t0', t1', t2'⟩ ?_ x ex⟩, fun h2 => ⟨fun h3 => ⟨fun h4 => ⟨by omega, fun x ex => fin ⟨m0', m1', m2', t0', t1', t2'⟩ ?_ x ex⟩, fun h4 => ?_⟩, fun h3 => ?_⟩⟩⟩
   . have h1 := of_decide_eq_true h1
     split
     . rw [if_neg (by omega), if_neg (by omega), if_neg (by omega)]
     . rfl
   . have h2 := of_decide_eq_true h2
     split
     . rw [if_neg (by omega), if_neg (by omega), if_neg (by omega)]
     . rfl
   . have h3 : d ≠ 1 := by simpa using h3
     have h4 : d ≠ -1 := by simpa using h4
     rw [if_neg (by omega)]
   all_goals
    have h1 := of_decide_eq_false h1
    have h2 := of_decide_eq_false h2
    have hd : d = 1 ∨ d = -1 := by first | exact .inl (by simpa using h3) | exact .inr (by simpa using h4)
    rw [if_pos hd] at fin
    refine ⟨fun a0 => ⟨by omega, fun x ex => ⟨⟨b0, by omega, by omega⟩, fun y ey => ⟨by omega, fun z ez => ?_⟩⟩⟩,
     fun a0 => ⟨fun a1 => ⟨by omega, fun x ex => ⟨⟨b1, by omega, by omega⟩, fun y ey => ⟨by omega, fun z ez => ?_⟩⟩⟩,
      fun a1 => ⟨fun a2 => ⟨by omega, fun x ex => ⟨⟨b2, by omega, by omega⟩, fun y ey => ⟨by omega, fun z ez => ?_⟩⟩⟩, fun a2 => by omega⟩⟩⟩
    . exact fin ⟨x, m1', m2', y, t1', t2'⟩ (by rw [if_pos a0, ey, ex]) z ez
    . exact fin ⟨m0', x, m2', t0', y, t2'⟩ (by rw [if_neg a0, if_pos a1, ey, ex]) z ez
    . exact fin ⟨m0', m1', x, t0', t1', y⟩ (by rw [if_neg a0, if_neg a1, if_pos a2, ey, ex]) z ez
 . have g := of_decide_eq_false g
   have hkl : k = l.length := by omega
   have := hx 0 _ (hq ⟨m0', m1', m2', t0', t1', t2'⟩ (by rw [he, hkl, List.take_length]))
   exact this
theorem sPStep : Sound Tryz.prog 18 SPStep := by
 refine sound_of (C := CPStep) tabPStep Tryz.func18 (by kernel_rfl) (by decide +kernel) (by kernel_rfl) rfl ⟨sTable, trivial⟩ (loops1 (by kernel_rfl) (loopOK_of (an := anStep) (S := LPStep) (by kernel_rfl) loopStep)) ?_
 intro hA pA R h
 unfold SPStep at h
 split at h
 case h_2 => exfalso; exact h
 rename_i sta spa aca jea loa hia bla oga sga pta stb spb acb jeb lob hib blb ogb sgb ptb stc spc acc jec loc hic blc ogc sgc ptc m0 m1 m2 t0 t1 t2 l
 obtain ⟨⟨h1, h2, h3⟩, _, hq⟩ := h
 exact byVC (vcPStep sta spa aca jea loa hia bla oga sga stb spb acb jeb lob hib blb ogb sgb stc spc acc jec loc hic blc ogc sgc pta ptb ptc m0 m1 m2 t0 t1 t2 l R) ⟨⟨rfl, rfl, h1, h2, h3⟩, hq⟩
end
open Go Go.HL U
theorem mot_step {st og sg p : Int} {pit : List (List Int)} (h : okSl sg pit) (hst : 4 <= st) : 0 <= mot st og sg pit (p + 1) - mot st og sg pit p /\ mot st og sg pit (p + 1) - mot st og sg pit p <= 1 := by
 have hc := corr_step (og := og) h p
 unfold mot
 have := ediv_near (x := 2 * (p + corr og sg pit p) + st) (e := 2 * (1 + (corr og sg pit (p + 1) - corr og sg pit p))) (B := 2 * st) (by omega) (by omega)
 rw [show 2 * (p + 1 + corr og sg pit (p + 1)) + st = 2 * (p + corr og sg pit p) + st + 2 * (1 + (corr og sg pit (p + 1) - corr og sg pit p)) by omega]
 omega
theorem okAx_sl {a : AxV} (h : okAx a) : okSl a.sg a.pit := ⟨h.2.2.2.2.2.2.2.2.1, h.2.2.2.2.2.2.2.2.2.2⟩
theorem unit_motor {a : AxV} {s : Int} {sgs : List (List Int)} {c : Nat} {d f m u : Int} {pk : List (List Int)} (ha : okAx a) (hm : pm m) (hl : okLen sgs) (hD : ∀ j, j < sgs.length -> -(ec sgs j 3) <= ec sgs j c - bgn s sgs c j /\ ec sgs j c - bgn s sgs c j <= ec sgs j 3)
 (h : unitOK s sgs c a.bl d f m pk u) : -1 <= mtr a.st a.og a.sg a.pit a.bl s sgs c pk f d u - mtr a.st a.og a.sg a.pit a.bl s sgs c pk f d (u - 1) /\ mtr a.st a.og a.sg a.pit a.bl s sgs c pk f d u - mtr a.st a.og a.sg a.pit a.bl s sgs c pk f d (u - 1) <= 1 := by
 rw [mtr_shf, mtr_shf]
 have st4 := ha.1.1
 rcases h with ⟨e, h1, h2⟩ | ⟨e, r1, r2, n, hn, e1, e2, _⟩
 . rw [e]; omega
 . rw [e1, e2]
   have near : ∀ q : Int, 0 <= q /\ q < plen sgs -> -1 <= mot a.st a.og a.sg a.pit (ptAt s sgs c (q + 1)) - mot a.st a.og a.sg a.pit (ptAt s sgs c q) /\ mot a.st a.og a.sg a.pit (ptAt s sgs c (q + 1)) - mot a.st a.og a.sg a.pit (ptAt s sgs c q) <= 1 := fun q hq => by
    have l := ptAt_lip (s := s) (c := c) hl hD hq
    have hd : ptAt s sgs c (q + 1) = ptAt s sgs c q ∨ ptAt s sgs c (q + 1) = ptAt s sgs c q + 1 ∨ ptAt s sgs c q = ptAt s sgs c (q + 1) + 1 := by omega
    rcases hd with e | e | e
    . rw [e]; omega
    . rw [e]; have := mot_step (og := a.og) (p := ptAt s sgs c q) (okAx_sl ha) st4; omega
    . rw [e]; have := mot_step (og := a.og) (p := ptAt s sgs c (q + 1)) (okAx_sl ha) st4; omega
   rcases hm with rfl | rfl
   . rw [e] at r1 ⊢
     have := near (tplace pk f (u - 1)) (by omega)
     omega
   . have e' : tplace pk f (u - 1) = tplace pk f u + 1 := by omega
     rw [e'] at r2 ⊢
     have := near (tplace pk f u) (by omega)
     omega
theorem okRun_leg {x : RunS} (h : okRun x) : ∃ a0 a1 a2, legOK x.s0 x.s1 x.s2 x.sg x.a.bl x.b.bl x.c.bl x.d0 x.d1 x.d2 x.f (legM x.f x.t) x.pk x.ln x.t a0 a1 a2 := by
 have hb := okRun_b3 h
 obtain ⟨hp, ha, hb', hc, hd, hf, ht, h1, h2⟩ := h
 rw [h1, h2]
 exact ⟨_, _, _, leg_all (okPath_len hp) hp.2.1 hb hd hf ht⟩
theorem M_steps {x : RunS} (h : okRun x) : (∀ u, 1 <= u /\ u <= x.ln -> -1 <= x.M0 u - x.M0 (u - 1) /\ x.M0 u - x.M0 (u - 1) <= 1) /\ (∀ u, 1 <= u /\ u <= x.ln -> -1 <= x.M1 u - x.M1 (u - 1) /\ x.M1 u - x.M1 (u - 1) <= 1) /\ (∀ u, 1 <= u /\ u <= x.ln -> -1 <= x.M2 u - x.M2 (u - 1) /\ x.M2 u - x.M2 (u - 1) <= 1) := by
 obtain ⟨a0, a1, a2, L⟩ := okRun_leg h
 have hL := L.2.2.2.2.2.2.2
 have hl := okPath_len h.1
 have hm : pm (legM x.f x.t) := legM_pm _ _
 have D := fun j hj => okSegs_D h.1.2.1 (j := j) hj
 exact ⟨fun u hu => unit_motor h.2.1 hm hl (fun j hj => (D j hj).1) (hL u hu).1, fun u hu => unit_motor h.2.2.1 hm hl (fun j hj => (D j hj).2.1) (hL u hu).2.1, fun u hu => unit_motor h.2.2.2.1 hm hl (fun j hj => (D j hj).2.2) (hL u hu).2.2⟩
end Go.Proofs.YtneingpnkdeooaaGreat
namespace U
open Go
def RunS.N0 (x : RunS) (u : Int) : Int := nomi x.a.st x.a.og x.a.sg x.a.pit x.s0 x.sg 0 (tplace x.pk x.f u)
def RunS.N1 (x : RunS) (u : Int) : Int := nomi x.b.st x.b.og x.b.sg x.b.pit x.s1 x.sg 1 (tplace x.pk x.f u)
def RunS.N2 (x : RunS) (u : Int) : Int := nomi x.c.st x.c.og x.c.sg x.c.pit x.s2 x.sg 2 (tplace x.pk x.f u)
def RunS.at (x : RunS) (u : Int) : PS := ⟨x.M0 u, x.M1 u, x.M2 u, x.N0 u, x.N1 u, x.N2 u⟩
def okTr (x : RunS) : Prop := okRun x /\ x.f = 0 /\ x.t = plen x.sg /\ x.d0 = 1 /\ x.d1 = 1 /\ x.d2 = 1
end U
namespace Go.Proofs.YtneingpnkdeooaaGreat
open Go Go.HL U
def SDirs0 (hA : List HV) (pA : List (List HC)) : SR :=
 match hA, pA with
 | [.ce (.int .i64 n)], [] => .det (n = 0) ⟨.agg [.int .i64 1, .int .i64 1, .int .i64 1], false, [], []⟩
 | _, _ => .fail
def STrack (hA : List HV) (pA : List (List HC)) : SR :=
 match hA, pA with
 | [.ce (.sl false [4] l), .ce (.sl false [4] ax), .ce (.int .i64 m), .ce (.int .i64 ds)], [] => .all ((0 <= m /\ m <= 5) /\ ds = 0 /\ l.length <= 9223372036854775807 /\ ax.length <= 9223372036854775807) RunS okTr (fun x => ⟨.agg [.int .i64 x.s0, .int .i64 x.s1, .int .i64 x.s2, .sl false [4, 4, 4, 4, 4, 4, 4] x.sg, .sl false [4, 4, 4] x.mks, .int .i64 x.a.st, .int .i64 x.a.sp, .int .i64 x.a.ac, .int .i64 x.a.je, .int .i64 (-16777216), .int .i64 16777216, .int .i64 x.a.bl, .int .i64 x.a.og, .int .i64 x.a.sg, .sl false [4] x.a.pit, .int .i64 x.b.st, .int .i64 x.b.sp, .int .i64 x.b.ac, .int .i64 x.b.je, .int .i64 (-16777216), .int .i64 16777216, .int .i64 x.b.bl, .int .i64 x.b.og, .int .i64 x.b.sg, .sl false [4] x.b.pit, .int .i64 x.c.st, .int .i64 x.c.sp, .int .i64 x.c.ac, .int .i64 x.c.je, .int .i64 (-16777216), .int .i64 16777216, .int .i64 x.c.bl, .int .i64 x.c.og, .int .i64 x.c.sg, .sl false [4] x.c.pit, .sl false [4, 4, 4, 4, 4, 4, 4, 4, 4, 4] x.pk, .int .i64 x.ln, .int .i64 x.f, .int .i64 x.d0, .int .i64 x.d1, .int .i64 x.d2], false, [], []⟩)
 | _, _ => .fail
def tabTrack : List (FuncId × HL.Spec) := [(36, SPath), (37, SAxes), (28, SPLen), (38, SDirs0), (34, SLeg)]
noncomputable def CTrack : Ctx := ⟨Tryz.prog, gam tabTrack, Tryz.f16.ntmps, [], []⟩
theorem vcTrack (l ax : List (List Int)) (m ds : Int) (Q : Res -> Prop) : (nfun true CTrack Tryz.f16 (bodyOf Tryz.f16) [.ce (.sl false [4] l), .ce (.sl false [4] ax), .ce (I6 m), .ce (I6 ds)] [] Q) =
 ((0 <= m /\ m <= 5 /\ l.length <= 9223372036854775807) /\ (∃ (x : BSt), okPath x.s0 x.s1 x.s2 x.sg x.mks) /\ ∀ (x : BSt), okPath x.s0 x.s1 x.s2 x.sg x.mks -> ax.length <= 9223372036854775807 /\ (∃ (x : AxV × AxV × AxV), okAx x.1 /\ okAx x.snd.1 /\ okAx x.snd.2) /\ ∀ (x_1 : AxV × AxV × AxV), okAx x_1.1 /\ okAx x_1.snd.1 /\ okAx x_1.snd.2 -> ds = 0 /\ ∀ (x3 : Int), x3 = 1 -> ∀ (x4 : Int), x4 = 1 -> ∀ (x5 : Int), x5 = 1 -> okLen x.sg /\ ∀ (x6 : Int), x6 = plen x.sg -> (okLen x.sg /\ okPts x.s0 x.s1 x.s2 x.sg /\ okB3 x_1.1.bl x_1.snd.1.bl x_1.snd.2.bl) /\ (∃ (x_2 : LegS), x_2 = leg x.s0 x.s1 x.s2 x.sg x_1.1.bl x_1.snd.1.bl x_1.snd.2.bl x3 x4 x5 (clamp (plen x.sg) (0 : Int)) (clamp (plen x.sg) x6)) /\ ∀ (x_2 : LegS), x_2 = leg x.s0 x.s1 x.s2 x.sg x_1.1.bl x_1.snd.1.bl x_1.snd.2.bl x3 x4 x5 (clamp (plen x.sg) (0 : Int)) (clamp (plen x.sg) x6) -> Q ⟨.agg [I6 x.s0, I6 x.s1, I6 x.s2, .sl false [4, 4, 4, 4, 4, 4, 4] x.sg, .sl false [4, 4, 4] x.mks, I6 x_1.1.st, I6 x_1.1.sp, I6 x_1.1.ac, I6 x_1.1.je, I6 (-16777216), I6 16777216, I6 x_1.1.bl, I6 x_1.1.og, I6 x_1.1.sg, .sl false [4] x_1.1.pit, I6 x_1.snd.1.st, I6 x_1.snd.1.sp, I6 x_1.snd.1.ac, I6 x_1.snd.1.je, I6 (-16777216), I6 16777216, I6 x_1.snd.1.bl, I6 x_1.snd.1.og, I6 x_1.snd.1.sg, .sl false [4] x_1.snd.1.pit, I6 x_1.snd.2.st, I6 x_1.snd.2.sp, I6 x_1.snd.2.ac, I6 x_1.snd.2.je, I6 (-16777216), I6 16777216, I6 x_1.snd.2.bl, I6 x_1.snd.2.og, I6 x_1.snd.2.sg, .sl false [4] x_1.snd.2.pit, .sl false [4, 4, 4, 4, 4, 4, 4, 4, 4, 4] x_2.pk, I6 x_2.ln, I6 (clamp (plen x.sg) (0 : Int)), I6 x3, I6 x4, I6 x5], false, [], []⟩) := by kernel_rfl
theorem vcDirs0 (n : Int) (Q : Res -> Prop) : (nfun true CDirs Tryz.f38 (bodyOf Tryz.f38) [.ce (I6 n)] [] Q) =
 (((0 : Int) < 8 /\ (8 : Int) <= 4611686018427387904) /\ ∀ (x1 : Int), x1 = n % 8 -> (2 : Int) ≠ (0 : Int) /\ ∀ (x2 : Int), x2 = Int.tmod x1 2 -> (-9223372036854775808 <= x2 * 2 /\ x2 * 2 <= 9223372036854775807) /\ ∀ (x3 : Int), x3 = x2 * 2 -> (-9223372036854775808 <= 1 - x3 /\ (1 : Int) - x3 <= 9223372036854775807) /\ ∀ (x4 : Int), x4 = 1 - x3 -> (2 : Int) ≠ (0 : Int) /\ (-9223372036854775808 <= Int.tdiv x1 2 /\ Int.tdiv x1 2 <= 9223372036854775807) /\ ∀ (x5 : Int), x5 = Int.tdiv x1 2 -> (2 : Int) ≠ (0 : Int) /\ ∀ (x6 : Int), x6 = Int.tmod x5 2 -> (-9223372036854775808 <= x6 * 2 /\ x6 * 2 <= 9223372036854775807) /\ ∀ (x7 : Int), x7 = x6 * 2 -> (-9223372036854775808 <= 1 - x7 /\ (1 : Int) - x7 <= 9223372036854775807) /\ ∀ (x8 : Int), x8 = 1 - x7 -> (4 : Int) ≠ (0 : Int) /\ (-9223372036854775808 <= Int.tdiv x1 4 /\ Int.tdiv x1 4 <= 9223372036854775807) /\
 ∀ (x9 : Int), x9 = Int.tdiv x1 4 -> (-9223372036854775808 <= x9 * 2 /\ x9 * 2 <= 9223372036854775807) /\ ∀ (x10 : Int), x10 = x9 * 2 -> (-9223372036854775808 <= 1 - x10 /\ (1 : Int) - x10 <= 9223372036854775807) /\ ∀ (x11 : Int), x11 = 1 - x10 -> Q ⟨.agg [I6 x4, I6 x8, I6 x11], false, [], []⟩) := by kernel_rfl
def tabAw40 : List (FuncId × HL.Spec) := [(18, SPStep)]
noncomputable def CAw40 : Ctx := ⟨Tryz.prog, gam tabAw40, Tryz.f15.ntmps, [], []⟩
theorem vcAw40 (Q : Res -> Prop) : (nfun true CAw40 Tryz.f15 (bodyOf Tryz.f15) [] [] Q) =
 (((okBl (3 : Int) /\ okBl (3 : Int) /\ okBl (3 : Int)) /\ smallPS (1152921504606846976 : Int) { m0 := (0 : Int), m1 := (0 : Int), m2 := (0 : Int), t0 := (0 : Int), t1 := (0 : Int), t2 := (0 : Int) } /\ (3 : Nat) <= 1152921504606846976) /\ (∃ (x : PS), x = pall (3 : Int) (3 : Int) (3 : Int) { m0 := (0 : Int), m1 := (0 : Int), m2 := (0 : Int), t0 := (0 : Int), t1 := (0 : Int), t2 := (0 : Int) } [[(0 : Int), (0 : Int), (-1 : Int)], [(0 : Int), (0 : Int), (-1 : Int)], [(0 : Int), (0 : Int), (-1 : Int)]]) /\ ∀ (x : PS), x = pall (3 : Int) (3 : Int) (3 : Int) { m0 := (0 : Int), m1 := (0 : Int), m2 := (0 : Int), t0 := (0 : Int), t1 := (0 : Int), t2 := (0 : Int) } [[(0 : Int), (0 : Int), (-1 : Int)], [(0 : Int), (0 : Int), (-1 : Int)], [(0 : Int), (0 : Int), (-1 : Int)]] -> ((x.m0 == (-3 : Int) && (x.m1 == 0 && (x.m2 == 0 && true))) = true -> Q ⟨.ce (.bool (x.t0 == 0 && (x.t1 == 0 && (x.t2 == 0 && true)))), false, [], []⟩) /\
 ((x.m0 == (-3 : Int) && (x.m1 == 0 && (x.m2 == 0 && true))) = false -> Q ⟨.ce (.bool false), false, [], []⟩)) := by kernel_rfl
section
attribute [local irreducible] hfun bodyT fragT
theorem sDirs0 : Sound Tryz.prog 38 SDirs0 := by
 refine sound_of (C := CDirs) tabDirs Tryz.func38 (by kernel_rfl) (by decide +kernel) (by kernel_rfl) rfl ⟨sMod, trivial⟩ (loops0 (by kernel_rfl)) ?_
 intro hA pA R h
 unfold SDirs0 at h
 split at h
 case h_2 => exfalso; exact h
 rename_i n
 obtain ⟨rfl, hq⟩ := h
 refine byVC (vcDirs0 0 R) ⟨by decide, ?_⟩
 rintro _ rfl
 refine ⟨by decide, ?_⟩
 rintro _ rfl
 refine ⟨by decide, ?_⟩
 rintro _ rfl
 refine ⟨by decide, ?_⟩
 rintro _ rfl
 refine ⟨by decide, by decide, ?_⟩
 rintro _ rfl
 refine ⟨by decide, ?_⟩
 rintro _ rfl
 refine ⟨by decide, ?_⟩
 rintro _ rfl
 refine ⟨by decide, ?_⟩
 rintro _ rfl
 refine ⟨by decide, by decide, ?_⟩
 rintro _ rfl
 refine ⟨by decide, ?_⟩
 rintro _ rfl
 refine ⟨by decide, ?_⟩
 rintro _ rfl
 exact hq
theorem sTrack : Sound Tryz.prog 16 STrack := by
 refine sound_of (C := CTrack) tabTrack Tryz.func16 (by kernel_rfl) (by decide +kernel) (by kernel_rfl) rfl ⟨sPath, sAxes, sPLen, sDirs0, sLeg, trivial⟩ (loops0 (by kernel_rfl)) ?_
 intro hA pA R h
 unfold STrack at h
 split at h
 case h_2 => exfalso; exact h
 rename_i l ax m ds
 obtain ⟨⟨hm, hds, hl, ha⟩, _, hR⟩ := h
 refine byVC (vcTrack l ax m ds R) ⟨⟨hm.1, hm.2, hl⟩, okPath_ex, fun x hx => ⟨ha, ?_, fun y hy => ?_⟩⟩
 . obtain ⟨a, h⟩ := okAx_ex
   exact ⟨(a, a, a), h, h, h⟩
 . have hL := okPath_len hx
   have hp := plen_le hL
   refine ⟨hds, fun x3 e3 x4 e4 x5 e5 => ⟨hL, fun x6 e6 => ⟨⟨hL, okPath_pts hx, ?_⟩, ⟨_, rfl⟩, fun w hw => ?_⟩⟩⟩
   . have := hy.1.2.2.2.2.1
     have := hy.2.1.2.2.2.2.1
     have := hy.2.2.2.2.2.2.1
     unfold okB3; omega
   . have c1 : clamp (plen x.sg) 0 = 0 := clamp_in (by omega)
     have c2 : clamp (plen x.sg) x6 = plen x.sg := by rw [e6]; exact clamp_in (by omega)
     exact hR ⟨x.s0, x.s1, x.s2, x.sg, x.mks, y.1, y.2.1, y.2.2, x3, x4, x5, clamp (plen x.sg) 0, clamp (plen x.sg) x6, w.pk, w.ln⟩
      ⟨⟨hx, hy.1, hy.2.1, hy.2.2, ⟨.inl e3, .inl e4, .inl e5⟩, clamp_bd hp.1, clamp_bd hp.1, by rw [hw]; rfl, by rw [hw]; rfl⟩, c1, c2, e3, e4, e5⟩
theorem sAw40 : Sound Tryz.prog 15 STrue0 := by
 refine sound_of (C := CAw40) tabAw40 Tryz.func15 (by kernel_rfl) (by decide +kernel) (by kernel_rfl) rfl ⟨sPStep, trivial⟩ (loops0 (by kernel_rfl)) ?_
 intro hA pA R h
 unfold STrue0 at h
 split at h
 case h_2 => exfalso; exact h
 obtain ⟨_, _, hq⟩ := h
 have hp : pall 3 3 3 ⟨0, 0, 0, 0, 0, 0⟩ [[0, 0, -1], [0, 0, -1], [0, 0, -1]] = ⟨-3, 0, 0, 0, 0, 0⟩ := by kernel_rfl
 refine byVC (vcAw40 R) ⟨⟨by unfold okBl; decide, by unfold smallPS; decide, by decide⟩, ⟨_, rfl⟩, fun x e => ?_⟩
 rw [hp] at e
 subst e
 exact ⟨fun _ => hq _ rfl, fun e => by cases e⟩
theorem mot_near {st og sg p q : Int} {pit : List (List Int)} (h : okSl sg pit) (hst : 4 <= st) (hpq : 0 <= q - p /\ q - p <= 1) : mot st og sg pit p <= mot st og sg pit q := by
 have hd : q = p ∨ q = p + 1 := by omega
 rcases hd with rfl | rfl
 . exact Int.le_refl _
 . have := mot_step (og := og) (p := p) h hst; omega
theorem unit_follow {a : AxV} {s : Int} {sgs : List (List Int)} {c : Nat} {d f m u : Int} {pk : List (List Int)} (ha : okAx a) (hm : pm m) (hl : okLen sgs) (hD : ∀ j, j < sgs.length -> -(ec sgs j 3) <= ec sgs j c - bgn s sgs c j /\ ec sgs j c - bgn s sgs c j <= ec sgs j 3)
 (h : unitOK s sgs c a.bl d f m pk u) :
 tbl a.bl (nomi a.st a.og a.sg a.pit s sgs c (tplace pk f (u - 1))) (mtr a.st a.og a.sg a.pit a.bl s sgs c pk f d u) = nomi a.st a.og a.sg a.pit s sgs c (tplace pk f u) /\
 (mtr a.st a.og a.sg a.pit a.bl s sgs c pk f d u = mtr a.st a.og a.sg a.pit a.bl s sgs c pk f d (u - 1) -> nomi a.st a.og a.sg a.pit s sgs c (tplace pk f u) = nomi a.st a.og a.sg a.pit s sgs c (tplace pk f (u - 1))) := by
 rw [mtr_shf, mtr_shf]
 unfold nomi tbl
 have st4 := ha.1.1
 have bl0 := ha.2.2.2.2.1
 rcases h with ⟨e, h1, h2⟩ | ⟨e, r1, r2, n, hn, e1, e2, hdir⟩
 . rw [e]; exact ⟨by omega, fun _ => rfl⟩
 . rw [e1, e2]
   have lip : -1 <= ptAt s sgs c (tplace pk f u) - ptAt s sgs c (tplace pk f (u - 1)) /\ ptAt s sgs c (tplace pk f u) - ptAt s sgs c (tplace pk f (u - 1)) <= 1 := by
    rcases hm with rfl | rfl
    . rw [e] at r1 ⊢
      exact ptAt_lip hl hD (by omega)
    . have e' : tplace pk f (u - 1) = tplace pk f u + 1 := by omega
      rw [e'] at r2 ⊢
      have := ptAt_lip (s := s) hl hD (p := tplace pk f u) (by omega)
      omega
   refine ⟨?_, fun g => by omega⟩
   unfold bsh
   rcases hn with rfl | rfl
   . have := mot_near (og := a.og) (okAx_sl ha) st4 (p := ptAt s sgs c (tplace pk f (u - 1))) (q := ptAt s sgs c (tplace pk f u)) (by omega)
     rw [if_neg (by decide)]; omega
   . have := mot_near (og := a.og) (okAx_sl ha) st4 (q := ptAt s sgs c (tplace pk f (u - 1))) (p := ptAt s sgs c (tplace pk f u)) (by omega)
     rw [if_pos rfl]; omega
theorem pall_app (b0 b1 b2 : Int) (s : PS) (A B : List (List Int)) : pall b0 b1 b2 s (A ++ B) = pall b0 b1 b2 (pall b0 b1 b2 s A) B := by unfold pall; exact List.foldl_append
theorem pall_pl0 {b0 b1 b2 u n w t' : Int} {s : PS} (hw : s.m0 = w) (hd : -1 <= n - w /\ n - w <= 1) (ht : tbl b0 s.t0 n = t') (he : n = w -> t' = s.t0) : pall b0 b1 b2 s (pl1 u 0 n w) = { s with m0 := n, t0 := t' } := by
 unfold pl1
 by_cases e : n ≠ w
 . rw [if_pos e]
   show pstep b0 b1 b2 s [u, 0, n - w] = _
   unfold pstep
   have g2 : ([u, 0, n - w] : List Int).getD 2 0 = n - w := rfl
   have g1 : ([u, 0, n - w] : List Int).getD 1 0 = 0 := rfl
   rw [g2, g1, if_pos (by omega), if_pos rfl, hw, show w + (n - w) = n by omega, ht]
 . rw [if_neg e]
   have e : n = w := by omega
   show s = _
   rw [he e, e, <- hw]
theorem pall_pl1 {b0 b1 b2 u n w t' : Int} {s : PS} (hw : s.m1 = w) (hd : -1 <= n - w /\ n - w <= 1) (ht : tbl b1 s.t1 n = t') (he : n = w -> t' = s.t1) : pall b0 b1 b2 s (pl1 u 1 n w) = { s with m1 := n, t1 := t' } := by
 unfold pl1
 by_cases e : n ≠ w
 . rw [if_pos e]
   show pstep b0 b1 b2 s [u, 1, n - w] = _
   unfold pstep
   have g2 : ([u, 1, n - w] : List Int).getD 2 0 = n - w := rfl
   have g1 : ([u, 1, n - w] : List Int).getD 1 0 = 1 := rfl
   rw [g2, g1, if_pos (by omega), if_neg (by decide), if_pos rfl, hw, show w + (n - w) = n by omega, ht]
 . rw [if_neg e]
   have e : n = w := by omega
   show s = _
   rw [he e, e, <- hw]
theorem pall_pl2 {b0 b1 b2 u n w t' : Int} {s : PS} (hw : s.m2 = w) (hd : -1 <= n - w /\ n - w <= 1) (ht : tbl b2 s.t2 n = t') (he : n = w -> t' = s.t2) : pall b0 b1 b2 s (pl1 u 2 n w) = { s with m2 := n, t2 := t' } := by
 unfold pl1
 by_cases e : n ≠ w
 . rw [if_pos e]
   show pstep b0 b1 b2 s [u, 2, n - w] = _
   unfold pstep
   have g2 : ([u, 2, n - w] : List Int).getD 2 0 = n - w := rfl
   have g1 : ([u, 2, n - w] : List Int).getD 1 0 = 2 := rfl
   rw [g2, g1, if_pos (by omega), if_neg (by decide), if_neg (by decide), if_pos rfl, hw, show w + (n - w) = n by omega, ht]
 . rw [if_neg e]
   have e : n = w := by omega
   show s = _
   rw [he e, e, <- hw]
theorem pall_unit {x : RunS} (h : okRun x) {u : Int} (hu : 1 <= u /\ u <= x.ln) : pall x.a.bl x.b.bl x.c.bl (x.at (u - 1)) (plAt x.M0 x.M1 x.M2 u) = x.at u := by
 obtain ⟨a0, a1, a2, L⟩ := okRun_leg h
 obtain ⟨U0, U1, U2⟩ := L.2.2.2.2.2.2.2 u hu
 have hl := okPath_len h.1
 have hm : pm (legM x.f x.t) := legM_pm _ _
 have D := fun j hj => okSegs_D h.1.2.1 (j := j) hj
 have s := M_steps h
 have f0 := unit_follow h.2.1 hm hl (fun j hj => (D j hj).1) U0
 have f1 := unit_follow h.2.2.1 hm hl (fun j hj => (D j hj).2.1) U1
 have f2 := unit_follow h.2.2.2.1 hm hl (fun j hj => (D j hj).2.2) U2
 unfold plAt
 have e0 := pall_pl0 (b0 := x.a.bl) (b1 := x.b.bl) (b2 := x.c.bl) (u := u) (n := x.M0 u) (w := x.M0 (u - 1)) (t' := x.N0 u) (s := x.at (u - 1)) rfl (s.1 u hu) f0.1 f0.2
 have e1 := pall_pl1 (b0 := x.a.bl) (b1 := x.b.bl) (b2 := x.c.bl) (u := u) (n := x.M1 u) (w := x.M1 (u - 1)) (t' := x.N1 u) (s := { x.at (u - 1) with m0 := x.M0 u, t0 := x.N0 u }) rfl (s.2.1 u hu) f1.1 f1.2
 have e2 := pall_pl2 (b0 := x.a.bl) (b1 := x.b.bl) (b2 := x.c.bl) (u := u) (n := x.M2 u) (w := x.M2 (u - 1)) (t' := x.N2 u) (s := { x.at (u - 1) with m0 := x.M0 u, t0 := x.N0 u, m1 := x.M1 u, t1 := x.N1 u }) rfl (s.2.2 u hu) f2.1 f2.2
 rw [pall_app, pall_app, e0, e1, e2]
 rfl
theorem pall_plN {x : RunS} (h : okRun x) {a : Int} (ha : 0 <= a) : ∀ n : Nat, a + n <= x.ln -> pall x.a.bl x.b.bl x.c.bl (x.at a) (plN x.M0 x.M1 x.M2 a n) = x.at (a + n)
 | 0, _ => by
  show x.at a = x.at (a + ((0 : Nat) : Int))
  rw [show a + ((0 : Nat) : Int) = a by omega]
 | n + 1, hn => by
  unfold plN
  rw [pall_app, pall_plN h ha n (by omega)]
  have := pall_unit h (u := a + (n : Int) + 1) (by omega)
  rw [show a + (n : Int) + 1 - 1 = a + n by omega] at this
  rw [this, show a + ((n + 1 : Nat) : Int) = a + (n : Int) + 1 by omega]
theorem ptAt_zero {s : Int} {sg : List (List Int)} {c : Nat} (h : okLen sg) : ptAt s sg c 0 = s := by
 by_cases h0 : sg.length = 0
 . have e : pfind sg 0 = (-1, 0) := by unfold pfind; rw [if_pos h0]
   unfold ptAt
   rw [e, if_pos (by decide)]
 . have L := (h.2 0 (by omega)).1
   have := ptAt_seg (s := s) (c := c) (d := 0) h (show 0 < sg.length by omega) (by omega)
   have z : plen (sg.take 0) + 0 = 0 := rfl
   rw [z, Int.mul_zero, rnd_zero (by omega)] at this
   rw [this]
   have : bgn s sg c ((0 : Nat) : Int) = s := by unfold bgn; rw [if_pos (by omega)]
   rw [this]; omega
theorem N_bd {x : RunS} (h : okRun x) (u : Int) : (-2199023255552 <= x.N0 u /\ x.N0 u <= 2199023255554) /\ (-2199023255552 <= x.N1 u /\ x.N1 u <= 2199023255554) /\ (-2199023255552 <= x.N2 u /\ x.N2 u <= 2199023255554) := by
 have p := okRun_pre h
 have b := ptAt_b3 h.1 (tplace x.pk x.f u)
 exact ⟨motr_bd p.2.2.2.1.1.1 p.2.2.2.1.2.1 (by omega), motr_bd p.2.2.2.2.1.1.1 p.2.2.2.2.1.2.1 (by omega), motr_bd p.2.2.2.2.2.1.1.1 p.2.2.2.2.2.1.2.1 (by omega)⟩
theorem at_small {x : RunS} (h : okRun x) {u : Int} (hu : 0 <= u /\ u <= x.ln) : smallPS 1152921504606846976 (x.at u) := by
 have a := M0_bd h u hu
 have b := M1_bd h u hu
 have c := M2_bd h u hu
 have n := N_bd h u
 unfold smallPS RunS.at
 dsimp only
 omega
theorem okTr_ex : ∃ x, okTr x := by
 obtain ⟨a, ha⟩ := okAx_ex
 have hp : okPath 0 0 0 [] [] := ⟨by unfold b3; decide, okSegs_nil _ _ _, by decide, by decide⟩
 have h0 : (0 : Int) <= 0 /\ 0 <= plen [] := by decide
 exact ⟨⟨0, 0, 0, [], [], a, a, a, 1, 1, 1, 0, 0, _, _⟩, ⟨hp, ha, ha, ha, ⟨.inl rfl, .inl rfl, .inl rfl⟩, h0, h0, rfl, rfl⟩, rfl, rfl, rfl, rfl, rfl⟩
end
end Go.Proofs.YtneingpnkdeooaaGreat
namespace U
open Go
def tface (pk : List (List Int)) (d : Int) (c : Nat) (u : Int) : Int :=
 if tfind pk u < 0 then d else if ec pk (tfind pk u).toNat 3 ≠ 0 ∨ u = ec pk (tfind pk u).toNat 0 + ec pk (tfind pk u).toNat 1 then ec pk (tfind pk u).toNat (7 + c) else ec pk (tfind pk u).toNat (4 + c)
end U
namespace Go.Proofs.YtneingpnkdeooaaGreat
open Go Go.HL U
attribute [local irreducible] hfun bodyT fragT
theorem tface_of {pk : List (List Int)} {u : Int} {j : Nat} (h : tfind pk u = j) (d : Int) (c : Nat) :
 tface pk d c u = if ec pk j 3 ≠ 0 ∨ u = ec pk j 0 + ec pk j 1 then ec pk j (7 + c) else ec pk j (4 + c) := by
 unfold tface
 rw [h, if_neg (by omega)]
 rfl
end Go.Proofs.YtneingpnkdeooaaGreat
namespace U
open Go
def nl (a b : List Nat) : Prop := a = b
def tn1 (a b m d : Int) : Int := if b > a then m else if b < a then -m else d
def vis (b0 b1 b2 m s n n0 n1 n2 : Int) (pk : List (List Int)) (ln a0 a1 a2 : Int) : List (List Int) × Int :=
 tadd (legTk pk ln (slk b0 b1 b2 a0 a1 a2 n0 n1 n2) s a0 a1 a2 n0 n1 n2).1 (legTk pk ln (slk b0 b1 b2 a0 a1 a2 n0 n1 n2) s a0 a1 a2 n0 n1 n2).2 [0, n, s, m, n0, n1, n2, n0, n1, n2]
end U
namespace Go.Proofs.YtneingpnkdeooaaGreat
open Go Go.HL U
def STnd (hA : List HV) (pA : List (List HC)) : SR :=
 match hA, pA with
 | [.agg [.int .i64 d0, .int .i64 d1, .int .i64 d2], .agg [.int .i64 a0, .int .i64 a1, .int .i64 a2], .agg [.int .i64 b0, .int .i64 b1, .int .i64 b2], .ce (.int .i64 m)], [] =>
  .det (m = 1 ∨ m = -1) ⟨.agg [.int .i64 (tn1 a0 b0 m d0), .int .i64 (tn1 a1 b1 m d1), .int .i64 (tn1 a2 b2 m d2)], false, [], []⟩
 | _, _ => .fail
noncomputable def CTnd : Ctx := ⟨Tryz.prog, gam [], Tryz.f56.ntmps, [(4000002, unrT [1000004, 1000005, 1000006, 1000008], fun _ => .fail)], []⟩
theorem vcTnd (d0 d1 d2 a0 a1 a2 b0 b1 b2 m : Int) (Q : Res -> Prop) : (nfun true CTnd Tryz.f56 (bodyOf Tryz.f56) [.agg [I6 d0, I6 d1, I6 d2], .agg [I6 a0, I6 a1, I6 a2], .agg [I6 b0, I6 b1, I6 b2], .ce (I6 m)] [] Q) =
 ((decide (b0 > a0) = true -> (decide (b1 > a1) = true -> (decide (b2 > a2) = true -> Q ⟨.agg [I6 m, I6 m, I6 m], false, [], []⟩) /\ (decide (b2 > a2) = false -> (decide (b2 < a2) = true -> (-9223372036854775808 <= 0 - m /\ 0 - m <= 9223372036854775807) /\ ∀ (x1 : Int), x1 = 0 - m -> Q ⟨.agg [I6 m, I6 m, I6 x1], false, [], []⟩) /\ (decide (b2 < a2) = false -> Q ⟨.agg [I6 m, I6 m, I6 d2], false, [], []⟩))) /\ (decide (b1 > a1) = false -> (decide (b1 < a1) = true -> (-9223372036854775808 <= 0 - m /\ 0 - m <= 9223372036854775807) /\ ∀ (x2 : Int), x2 = 0 - m -> (decide (b2 > a2) = true -> Q ⟨.agg [I6 m, I6 x2, I6 m], false, [], []⟩) /\ (decide (b2 > a2) = false -> (decide (b2 < a2) = true -> (-9223372036854775808 <= 0 - m /\ 0 - m <= 9223372036854775807) /\ ∀ (x3 : Int), x3 = 0 - m -> Q ⟨.agg [I6 m, I6 x2, I6 x3], false, [], []⟩) /\
 (decide (b2 < a2) = false -> Q ⟨.agg [I6 m, I6 x2, I6 d2], false, [], []⟩))) /\ (decide (b1 < a1) = false -> (decide (b2 > a2) = true -> Q ⟨.agg [I6 m, I6 d1, I6 m], false, [], []⟩) /\ (decide (b2 > a2) = false -> (decide (b2 < a2) = true -> (-9223372036854775808 <= 0 - m /\ 0 - m <= 9223372036854775807) /\ ∀ (x4 : Int), x4 = 0 - m -> Q ⟨.agg [I6 m, I6 d1, I6 x4], false, [], []⟩) /\ (decide (b2 < a2) = false -> Q ⟨.agg [I6 m, I6 d1, I6 d2], false, [], []⟩))))) /\ (decide (b0 > a0) = false -> (decide (b0 < a0) = true -> (-9223372036854775808 <= 0 - m /\ 0 - m <= 9223372036854775807) /\ ∀ (x5 : Int), x5 = 0 - m -> (decide (b1 > a1) = true -> (decide (b2 > a2) = true -> Q ⟨.agg [I6 x5, I6 m, I6 m], false, [], []⟩) /\ (decide (b2 > a2) = false -> (decide (b2 < a2) = true -> (-9223372036854775808 <= 0 - m /\
 0 - m <= 9223372036854775807) /\ ∀ (x6 : Int), x6 = 0 - m -> Q ⟨.agg [I6 x5, I6 m, I6 x6], false, [], []⟩) /\ (decide (b2 < a2) = false -> Q ⟨.agg [I6 x5, I6 m, I6 d2], false, [], []⟩))) /\ (decide (b1 > a1) = false -> (decide (b1 < a1) = true -> (-9223372036854775808 <= 0 - m /\ 0 - m <= 9223372036854775807) /\ ∀ (x7 : Int), x7 = 0 - m -> (decide (b2 > a2) = true -> Q ⟨.agg [I6 x5, I6 x7, I6 m], false, [], []⟩) /\ (decide (b2 > a2) = false -> (decide (b2 < a2) = true -> (-9223372036854775808 <= 0 - m /\ 0 - m <= 9223372036854775807) /\ ∀ (x8 : Int), x8 = 0 - m -> Q ⟨.agg [I6 x5, I6 x7, I6 x8], false, [], []⟩) /\ (decide (b2 < a2) = false -> Q ⟨.agg [I6 x5, I6 x7, I6 d2], false, [], []⟩))) /\ (decide (b1 < a1) = false -> (decide (b2 > a2) = true -> Q ⟨.agg [I6 x5, I6 d1, I6 m], false, [], []⟩) /\
 (decide (b2 > a2) = false -> (decide (b2 < a2) = true -> (-9223372036854775808 <= 0 - m /\ 0 - m <= 9223372036854775807) /\ ∀ (x9 : Int), x9 = 0 - m -> Q ⟨.agg [I6 x5, I6 d1, I6 x9], false, [], []⟩) /\ (decide (b2 < a2) = false -> Q ⟨.agg [I6 x5, I6 d1, I6 d2], false, [], []⟩))))) /\ (decide (b0 < a0) = false -> (decide (b1 > a1) = true -> (decide (b2 > a2) = true -> Q ⟨.agg [I6 d0, I6 m, I6 m], false, [], []⟩) /\ (decide (b2 > a2) = false -> (decide (b2 < a2) = true -> (-9223372036854775808 <= 0 - m /\ 0 - m <= 9223372036854775807) /\ ∀ (x10 : Int), x10 = 0 - m -> Q ⟨.agg [I6 d0, I6 m, I6 x10], false, [], []⟩) /\ (decide (b2 < a2) = false -> Q ⟨.agg [I6 d0, I6 m, I6 d2], false, [], []⟩))) /\ (decide (b1 > a1) = false -> (decide (b1 < a1) = true -> (-9223372036854775808 <= 0 - m /\
 0 - m <= 9223372036854775807) /\ ∀ (x11 : Int), x11 = 0 - m -> (decide (b2 > a2) = true -> Q ⟨.agg [I6 d0, I6 x11, I6 m], false, [], []⟩) /\ (decide (b2 > a2) = false -> (decide (b2 < a2) = true -> (-9223372036854775808 <= 0 - m /\ 0 - m <= 9223372036854775807) /\ ∀ (x12 : Int), x12 = 0 - m -> Q ⟨.agg [I6 d0, I6 x11, I6 x12], false, [], []⟩) /\ (decide (b2 < a2) = false -> Q ⟨.agg [I6 d0, I6 x11, I6 d2], false, [], []⟩))) /\ (decide (b1 < a1) = false -> (decide (b2 > a2) = true -> Q ⟨.agg [I6 d0, I6 d1, I6 m], false, [], []⟩) /\ (decide (b2 > a2) = false -> (decide (b2 < a2) = true -> (-9223372036854775808 <= 0 - m /\ 0 - m <= 9223372036854775807) /\ ∀ (x13 : Int), x13 = 0 - m -> Q ⟨.agg [I6 d0, I6 d1, I6 x13], false, [], []⟩) /\ (decide (b2 < a2) = false -> Q ⟨.agg [I6 d0, I6 d1, I6 d2], false, [], []⟩))))))) := by kernel_rfl
noncomputable def CTake : Ctx := ⟨Tryz.prog, gam [], Tryz.f57.ntmps, [(4000003, unrT [1000003, 1000004, 1000005], fun _ => .fail)], []⟩
theorem vcTake (sta spa aca jea loa hia bla oga sga stb spb acb jeb lob hib blb ogb sgb stc spc acc jec loc hic blc ogc sgc : Int) (pta ptb ptc : List (List Int)) (w0 w1 w2 d0 d1 d2 : Int) (Q : Res -> Prop) : (nfun true CTake Tryz.f57 (bodyOf Tryz.f57) [.agg [I6 sta, I6 spa, I6 aca, I6 jea, I6 loa, I6 hia, I6 bla, I6 oga, I6 sga, .sl false [4] pta, I6 stb, I6 spb, I6 acb, I6 jeb, I6 lob, I6 hib, I6 blb, I6 ogb, I6 sgb, .sl false [4] ptb, I6 stc, I6 spc, I6 acc, I6 jec, I6 loc, I6 hic, I6 blc, I6 ogc, I6 sgc, .sl false [4] ptc], .agg [I6 w0, I6 w1, I6 w2], .agg [I6 d0, I6 d1, I6 d2]] [] Q) =
 (((w0 != d0) = true -> ∀ (x1 : Int), x1 = max (0 : Int) bla -> ((w1 != d1) = true -> ∀ (x2 : Int), x2 = max x1 blb -> ((w2 != d2) = true -> ∀ (x3 : Int), x3 = max x2 blc -> Q ⟨.ce (I6 x3), false, [], []⟩) /\ ((w2 != d2) = false -> Q ⟨.ce (I6 x2), false, [], []⟩)) /\ ((w1 != d1) = false -> ((w2 != d2) = true -> ∀ (x4 : Int), x4 = max x1 blc -> Q ⟨.ce (I6 x4), false, [], []⟩) /\ ((w2 != d2) = false -> Q ⟨.ce (I6 x1), false, [], []⟩))) /\ ((w0 != d0) = false -> ((w1 != d1) = true -> ∀ (x5 : Int), x5 = max (0 : Int) blb -> ((w2 != d2) = true -> ∀ (x6 : Int), x6 = max x5 blc -> Q ⟨.ce (I6 x6), false, [], []⟩) /\ ((w2 != d2) = false -> Q ⟨.ce (I6 x5), false, [], []⟩)) /\ ((w1 != d1) = false -> ((w2 != d2) = true -> ∀ (x7 : Int), x7 = max (0 : Int) blc -> Q ⟨.ce (I6 x7), false, [], []⟩) /\ ((w2 != d2) = false -> Q ⟨.ce (I6 0), false, [], []⟩)))) := by kernel_rfl
def SLeg1 (hA : List HV) (pA : List (List HC)) : SR :=
 match hA, pA with
 | [.agg [.int .i64 q0, .int .i64 q1, .int .i64 q2, .int .i64 q3, .int .i64 q4, .int .i64 q5, .int .i64 q6, .int .i64 q7, .int .i64 q8, .int .i64 q9], .ce (.ptr 0 0)], [[.mu [4, 4, 4, 4, 4, 4, 4, 4, 4, 4] pk, .int .i64 ln, .int .i64 sa, .int .i64 d0, .int .i64 d1, .int .i64 d2]] =>
  .all ((-2305843009213693952 <= q1 /\ q1 <= 2305843009213693952) /\ (-2305843009213693952 <= ln /\ ln <= 2305843009213693952) /\ pk.length <= 1000000000000 /\ ∀ j, j < pk.length -> -2305843009213693952 <= ec pk j 1 /\ ec pk j 1 <= 2305843009213693952)
   (List (List Int) × Int) (fun x => x = tadd pk ln [q0, q1, q2, q3, q4, q5, q6, q7, q8, q9])
   (fun x => ⟨.tup [], false, [[.mu [4, 4, 4, 4, 4, 4, 4, 4, 4, 4] x.1, .int .i64 x.2, .int .i64 sa, .int .i64 d0, .int .i64 d1, .int .i64 d2]], []⟩)
 | _, _ => .fail
noncomputable def CLeg1 : Ctx := ⟨Tryz.prog, gam [], Tryz.f54.ntmps, [], [57, spl 1 0 0 8, spl 6 0 0 7]⟩
theorem vcLeg1 (q0 q1 q2 q3 q4 q5 q6 q7 q8 q9 ln sa d0 d1 d2 : Int) (pk : List (List Int)) (Q : Res -> Prop) : (nfun true CLeg1 Tryz.f54 (bodyOf Tryz.f54) [.agg [I6 q0, I6 q1, I6 q2, I6 q3, I6 q4, I6 q5, I6 q6, I6 q7, I6 q8, I6 q9], .ce (.ptr 0 0)] [[.mu [4, 4, 4, 4, 4, 4, 4, 4, 4, 4] pk, I6 ln, I6 sa, I6 d0, I6 d1, I6 d2]] Q) =
 ((pk.length = 0 -> ((1 : Nat) <= 1 /\ (1 : Nat) * 80 <= 140737488355328 /\ (1 : Nat) <= maxLen) /\ (∃ (x : Nat), (1 : Nat) <= x /\ x <= maxLen) /\ ∀ (x : Nat), (1 : Nat) <= x /\ x <= maxLen -> ((1 : Nat) = 1 /\ x = x /\ (0 : Nat) < 1) /\ (-9223372036854775808 <= ln + q1 /\ ln + q1 <= 9223372036854775807) /\ ∀ (x2 : Int), x2 = ln + q1 -> Q { val := .tup [], own := false, pars := [[.mu [4, 4, 4, 4, 4, 4, 4, 4, 4, 4] [[ln, q1, q2, q3, q4, q5, q6, q7, q8, q9]], I6 x2, I6 sa, I6 d0, I6 d1, I6 d2]], news := [] }) /\ ((0 : Nat) < pk.length -> ∀ (cap : Nat), pk.length <= cap /\ cap <= maxLen -> (decide ((pk.length : Int) > 0) = true -> ((q3 != 0) = true -> (-9223372036854775808 <= (pk.length : Int) - 1 /\ (pk.length : Int) - 1 <= 9223372036854775807) /\ ∀ (x4 : Int), x4 = (pk.length : Int) - 1 ->
 (0 <= x4 /\ x4 < (pk.length : Int)) /\ x4.toNat < pk.length /\ ∀ (x5 : Int), x5 = ec pk x4.toNat 3 -> ((x5 == q3) = true -> (-9223372036854775808 <= (pk.length : Int) - 1 /\ (pk.length : Int) - 1 <= 9223372036854775807) /\ ∀ (x6 : Int), x6 = (pk.length : Int) - 1 -> (0 <= x6 /\ x6 < (pk.length : Int)) /\ x6.toNat < pk.length /\ ((ec pk x6.toNat 7 == q7 && (ec pk x6.toNat 8 == q8 && (ec pk x6.toNat 9 == q9 && true))) = true -> (-9223372036854775808 <= (pk.length : Int) - 1 /\ (pk.length : Int) - 1 <= 9223372036854775807) /\ ∀ (x7 : Int), x7 = (pk.length : Int) - 1 -> (0 <= x7 /\ x7 < (pk.length : Int)) /\ x7.toNat < pk.length /\ ∀ (x8 : Int), x8 = ec pk x7.toNat 1 -> (-9223372036854775808 <= x8 + q1 /\ x8 + q1 <= 9223372036854775807) /\ ∀ (x9 : Int), x9 = x8 + q1 -> (0 <= x7 /\ x7 < (pk.length : Int)) /\ x7.toNat < pk.length /\
 (pk.length = List.length (List.set pk x7.toNat [bif false && true then x9 else el pk x7.toNat, bif true && true then x9 else ec pk x7.toNat 1, bif true && false then (0 : Int) else ec pk x7.toNat 2, bif true && false then (0 : Int) else ec pk x7.toNat 3, bif true && false then (0 : Int) else ec pk x7.toNat 4, bif true && false then (0 : Int) else ec pk x7.toNat 5, bif true && false then (0 : Int) else ec pk x7.toNat 6, bif true && false then (0 : Int) else ec pk x7.toNat 7, bif true && false then (0 : Int) else ec pk x7.toNat 8, bif true && false then (0 : Int) else ec pk x7.toNat 9]) /\ cap = cap /\ (0 : Nat) < List.length (List.set pk x7.toNat [bif false && true then x9 else el pk x7.toNat, bif true && true then x9 else ec pk x7.toNat 1, bif true && false then (0 : Int) else ec pk x7.toNat 2, bif true && false then (0 : Int) else ec pk x7.toNat 3, bif true && false then (0 : Int) else ec pk x7.toNat 4, bif true && false then (0 : Int) else ec pk x7.toNat 5, bif true && false then (0 : Int) else ec pk x7.toNat 6, bif true && false then (0 : Int) else ec pk x7.toNat 7, bif true && false then (0 : Int) else ec pk x7.toNat 8, bif true && false then (0 : Int) else ec pk x7.toNat 9])) /\
 (-9223372036854775808 <= ln + q1 /\ ln + q1 <= 9223372036854775807) /\ ∀ (x10 : Int), x10 = ln + q1 -> Q { val := .tup [], own := false, pars := [[.mu [4, 4, 4, 4, 4, 4, 4, 4, 4, 4] (List.set pk x7.toNat [bif false && true then x9 else el pk x7.toNat, bif true && true then x9 else ec pk x7.toNat 1, bif true && false then (0 : Int) else ec pk x7.toNat 2, bif true && false then (0 : Int) else ec pk x7.toNat 3, bif true && false then (0 : Int) else ec pk x7.toNat 4, bif true && false then (0 : Int) else ec pk x7.toNat 5, bif true && false then (0 : Int) else ec pk x7.toNat 6, bif true && false then (0 : Int) else ec pk x7.toNat 7, bif true && false then (0 : Int) else ec pk x7.toNat 8, bif true && false then (0 : Int) else ec pk x7.toNat 9]), I6 x10, I6 sa, I6 d0, I6 d1, I6 d2]], news := [] }) /\ ((ec pk x6.toNat 7 == q7 && (ec pk x6.toNat 8 == q8 && (ec pk x6.toNat 9 == q9 && true))) = false ->
 (pk.length = pk.length /\ cap = cap /\ (pk.length + 1) * 80 <= 140737488355328 /\ pk.length + 1 <= maxLen) /\ (∃ (x : Nat), pk.length + 1 <= x /\ x <= maxLen) /\ ∀ (x : Nat), pk.length + 1 <= x /\ x <= maxLen -> (pk.length + 1 = List.length (pk ++ [[ln, q1, q2, q3, q4, q5, q6, q7, q8, q9]]) /\ x = x /\ (0 : Nat) < List.length (pk ++ [[ln, q1, q2, q3, q4, q5, q6, q7, q8, q9]])) /\ (-9223372036854775808 <= ln + q1 /\ ln + q1 <= 9223372036854775807) /\ ∀ (x12 : Int), x12 = ln + q1 -> Q { val := .tup [], own := false, pars := [[.mu [4, 4, 4, 4, 4, 4, 4, 4, 4, 4] (pk ++ [[ln, q1, q2, q3, q4, q5, q6, q7, q8, q9]]), I6 x12, I6 sa, I6 d0, I6 d1, I6 d2]], news := [] })) /\ ((x5 == q3) = false -> (pk.length = pk.length /\ cap = cap /\ (pk.length + 1) * 80 <= 140737488355328 /\
 pk.length + 1 <= maxLen) /\ (∃ (x : Nat), pk.length + 1 <= x /\ x <= maxLen) /\ ∀ (x : Nat), pk.length + 1 <= x /\ x <= maxLen -> (pk.length + 1 = List.length (pk ++ [[ln, q1, q2, q3, q4, q5, q6, q7, q8, q9]]) /\ x = x /\ (0 : Nat) < List.length (pk ++ [[ln, q1, q2, q3, q4, q5, q6, q7, q8, q9]])) /\ (-9223372036854775808 <= ln + q1 /\ ln + q1 <= 9223372036854775807) /\ ∀ (x14 : Int), x14 = ln + q1 -> Q { val := .tup [], own := false, pars := [[.mu [4, 4, 4, 4, 4, 4, 4, 4, 4, 4] (pk ++ [[ln, q1, q2, q3, q4, q5, q6, q7, q8, q9]]), I6 x14, I6 sa, I6 d0, I6 d1, I6 d2]], news := [] })) /\ ((q3 != 0) = false -> (pk.length = pk.length /\ cap = cap /\ (pk.length + 1) * 80 <= 140737488355328 /\ pk.length + 1 <= maxLen) /\ (∃ (x : Nat), pk.length + 1 <= x /\ x <= maxLen) /\ ∀ (x : Nat), pk.length + 1 <= x /\
 x <= maxLen -> (pk.length + 1 = List.length (pk ++ [[ln, q1, q2, q3, q4, q5, q6, q7, q8, q9]]) /\ x = x /\ (0 : Nat) < List.length (pk ++ [[ln, q1, q2, q3, q4, q5, q6, q7, q8, q9]])) /\ (-9223372036854775808 <= ln + q1 /\ ln + q1 <= 9223372036854775807) /\ ∀ (x16 : Int), x16 = ln + q1 -> Q { val := .tup [], own := false, pars := [[.mu [4, 4, 4, 4, 4, 4, 4, 4, 4, 4] (pk ++ [[ln, q1, q2, q3, q4, q5, q6, q7, q8, q9]]), I6 x16, I6 sa, I6 d0, I6 d1, I6 d2]], news := [] })) /\ (decide ((pk.length : Int) > 0) = false -> (pk.length = pk.length /\ cap = cap /\ (pk.length + 1) * 80 <= 140737488355328 /\ pk.length + 1 <= maxLen) /\ (∃ (x : Nat), pk.length + 1 <= x /\ x <= maxLen) /\ ∀ (x : Nat), pk.length + 1 <= x /\ x <= maxLen -> (pk.length + 1 = List.length (pk ++ [[ln, q1, q2, q3, q4, q5, q6, q7, q8, q9]]) /\
 x = x /\ (0 : Nat) < List.length (pk ++ [[ln, q1, q2, q3, q4, q5, q6, q7, q8, q9]])) /\ (-9223372036854775808 <= ln + q1 /\ ln + q1 <= 9223372036854775807) /\ ∀ (x18 : Int), x18 = ln + q1 -> Q { val := .tup [], own := false, pars := [[.mu [4, 4, 4, 4, 4, 4, 4, 4, 4, 4] (pk ++ [[ln, q1, q2, q3, q4, q5, q6, q7, q8, q9]]), I6 x18, I6 sa, I6 d0, I6 d1, I6 d2]], news := [] }))) := by kernel_rfl
def SLeg2 (hA : List HV) (pA : List (List HC)) : SR :=
 match hA, pA with
 | [.agg [.int .i64 a0, .int .i64 a1, .int .i64 a2], .agg [.int .i64 b0, .int .i64 b1, .int .i64 b2], .ce (.int .i64 s), .ce (.int .i64 n), .ce (.ptr 0 0), .ce (.ptr 1 0), .ce (.ptr 2 0), .ce (.ptr 3 0)],
  [[.int .i64 w0, .int .i64 w1, .int .i64 w2], [.int .i64 m], ax, [.fn g rs ex], [.mu [4, 4, 4, 4, 4, 4, 4, 4, 4, 4] pk, .int .i64 ln, .int .i64 sa, .int .i64 d0, .int .i64 d1, .int .i64 d2]] =>
  match ax with
  | [.int .i64 sta, .int .i64 spa, .int .i64 aca, .int .i64 jea, .int .i64 loa, .int .i64 hia, .int .i64 bla, .int .i64 oga, .int .i64 sga, .sl false [4] pta, .int .i64 stb, .int .i64 spb, .int .i64 acb, .int .i64 jeb, .int .i64 lob, .int .i64 hib, .int .i64 blb, .int .i64 ogb, .int .i64 sgb, .sl false [4] ptb, .int .i64 stc, .int .i64 spc, .int .i64 acc, .int .i64 jec, .int .i64 loc, .int .i64 hic, .int .i64 blc, .int .i64 ogc, .int .i64 sgc, .sl false [4] ptc] =>
   .all ((g = 54 /\ nl rs [4] /\ nl ex []) /\ (m = 1 ∨ m = -1) /\ okB3 bla blb blc /\ (0 <= n /\ n <= 1152921504606846976) /\ (0 <= ln /\ ln <= 1152921504606846976) /\ pk.length <= 100000000000 /\ ∀ j, j < pk.length -> 0 <= ec pk j 1 /\ ec pk j 1 <= ln)
    (List (List Int) × Int) (fun x => x = vis bla blb blc m s n (tn1 a0 b0 m w0) (tn1 a1 b1 m w1) (tn1 a2 b2 m w2) pk ln w0 w1 w2)
    (fun x => ⟨.tup [], false, [[.int .i64 (tn1 a0 b0 m w0), .int .i64 (tn1 a1 b1 m w1), .int .i64 (tn1 a2 b2 m w2)], [.int .i64 m], [.int .i64 sta, .int .i64 spa, .int .i64 aca, .int .i64 jea, .int .i64 loa, .int .i64 hia, .int .i64 bla, .int .i64 oga, .int .i64 sga, .sl false [4] pta, .int .i64 stb, .int .i64 spb, .int .i64 acb, .int .i64 jeb, .int .i64 lob, .int .i64 hib, .int .i64 blb, .int .i64 ogb, .int .i64 sgb, .sl false [4] ptb, .int .i64 stc, .int .i64 spc, .int .i64 acc, .int .i64 jec, .int .i64 loc, .int .i64 hic, .int .i64 blc, .int .i64 ogc, .int .i64 sgc, .sl false [4] ptc], [.fn 54 [4] []], [.mu [4, 4, 4, 4, 4, 4, 4, 4, 4, 4] x.1, .int .i64 x.2, .int .i64 sa, .int .i64 d0, .int .i64 d1, .int .i64 d2]], []⟩)
  | _ => .fail
 | _, _ => .fail
def tabLeg2 : List (FuncId × HL.Spec) := [(56, STnd), (57, SSlack), (54, SLeg1)]
noncomputable def CLeg2 : Ctx := ⟨Tryz.prog, gam tabLeg2, Tryz.f55.ntmps, [], []⟩
theorem vcLeg2 (a0 a1 a2 b0 b1 b2 s n w0 w1 w2 m ln sa d0 d1 d2 : Int) (pk : List (List Int)) (sta spa aca jea loa hia bla oga sga stb spb acb jeb lob hib blb ogb sgb stc spc acc jec loc hic blc ogc sgc : Int) (pta ptb ptc : List (List Int)) (Q : Res -> Prop) : (nfun true CLeg2 Tryz.f55 (bodyOf Tryz.f55) [.agg [I6 a0, I6 a1, I6 a2], .agg [I6 b0, I6 b1, I6 b2], .ce (I6 s), .ce (I6 n), .ce (.ptr 0 0), .ce (.ptr 1 0), .ce (.ptr 2 0), .ce (.ptr 3 0)] [[I6 w0, I6 w1, I6 w2], [I6 m], [I6 sta, I6 spa, I6 aca, I6 jea, I6 loa, I6 hia, I6 bla, I6 oga, I6 sga, .sl false [4] pta, I6 stb, I6 spb, I6 acb, I6 jeb, I6 lob, I6 hib, I6 blb, I6 ogb, I6 sgb, .sl false [4] ptb, I6 stc, I6 spc, I6 acc, I6 jec, I6 loc, I6 hic, I6 blc, I6 ogc, I6 sgc, .sl false [4] ptc], [.fn 54 [4] []], [.mu [4, 4, 4, 4, 4, 4, 4, 4, 4, 4] pk, I6 ln, I6 sa, I6 d0, I6 d1, I6 d2]] Q) =
 ((m = 1 ∨ m = (-1 : Int)) /\ ∀ (x1 : Int), x1 = tn1 a0 b0 m w0 -> ∀ (x2 : Int), x2 = tn1 a1 b1 m w1 -> ∀ (x3 : Int), x3 = tn1 a2 b2 m w2 -> True /\ ∀ (x4 : Int), x4 = slk bla blb blc w0 w1 w2 x1 x2 x3 -> (decide (x4 > 0) = true -> ((-2305843009213693952 <= x4 /\ x4 <= 2305843009213693952) /\ (-2305843009213693952 <= ln /\ ln <= 2305843009213693952) /\ pk.length <= 1000000000000 /\ ∀ (j : Nat), j < pk.length -> -2305843009213693952 <= ec pk j 1 /\ ec pk j 1 <= 2305843009213693952) /\ (∃ (x : List (List Int) × Int), x = tadd pk ln [(0 : Int), x4, s, (0 : Int), w0, w1, w2, x1, x2, x3]) /\ ∀ (x : List (List Int) × Int), x = tadd pk ln [(0 : Int), x4, s, (0 : Int), w0, w1, w2, x1, x2, x3] -> ((-2305843009213693952 <= n /\ n <= 2305843009213693952) /\ ((-2305843009213693952 : Int) <= x.2 /\ x.2 <= 2305843009213693952) /\ List.length x.1 <= 1000000000000 /\ ∀ (j : Nat), j < List.length x.1 ->
 -2305843009213693952 <= ec x.1 j 1 /\ ec x.1 j 1 <= 2305843009213693952) /\ (∃ (x_1 : List (List Int) × Int), x_1 = tadd x.1 x.2 [(0 : Int), n, s, m, x1, x2, x3, x1, x2, x3]) /\ ∀ (x_1 : List (List Int) × Int), x_1 = tadd x.1 x.2 [(0 : Int), n, s, m, x1, x2, x3, x1, x2, x3] -> Q { val := .tup [], own := false, pars := [[I6 x1, I6 x2, I6 x3], [I6 m], [I6 sta, I6 spa, I6 aca, I6 jea, I6 loa, I6 hia, I6 bla, I6 oga, I6 sga, .sl false [4] pta, I6 stb, I6 spb, I6 acb, I6 jeb, I6 lob, I6 hib, I6 blb, I6 ogb, I6 sgb, .sl false [4] ptb, I6 stc, I6 spc, I6 acc, I6 jec, I6 loc, I6 hic, I6 blc, I6 ogc, I6 sgc, .sl false [4] ptc], [.fn (54 : FuncId) [4] []], [.mu [4, 4, 4, 4, 4, 4, 4, 4, 4, 4] x_1.1, I6 x_1.2, I6 sa, I6 d0, I6 d1, I6 d2]], news := [] }) /\
 (decide (x4 > 0) = false -> ((-2305843009213693952 <= n /\ n <= 2305843009213693952) /\ (-2305843009213693952 <= ln /\ ln <= 2305843009213693952) /\ pk.length <= 1000000000000 /\ ∀ (j : Nat), j < pk.length -> -2305843009213693952 <= ec pk j 1 /\ ec pk j 1 <= 2305843009213693952) /\ (∃ (x : List (List Int) × Int), x = tadd pk ln [(0 : Int), n, s, m, x1, x2, x3, x1, x2, x3]) /\ ∀ (x : List (List Int) × Int), x = tadd pk ln [(0 : Int), n, s, m, x1, x2, x3, x1, x2, x3] -> Q { val := .tup [], own := false, pars := [[I6 x1, I6 x2, I6 x3], [I6 m], [I6 sta, I6 spa, I6 aca, I6 jea, I6 loa, I6 hia, I6 bla, I6 oga, I6 sga, .sl false [4] pta, I6 stb, I6 spb, I6 acb, I6 jeb, I6 lob, I6 hib, I6 blb, I6 ogb, I6 sgb, .sl false [4] ptb, I6 stc, I6 spc, I6 acc, I6 jec, I6 loc, I6 hic, I6 blc, I6 ogc, I6 sgc, .sl false [4] ptc], [.fn (54 : FuncId) [4] []], [.mu [4, 4, 4, 4, 4, 4, 4, 4, 4, 4] x.1, I6 x.2, I6 sa, I6 d0, I6 d1, I6 d2]], news := [] })) := by kernel_rfl
end Go.Proofs.YtneingpnkdeooaaGreat
namespace U
theorem tn1_p {a b m d : Int} (h : decide (b > a) = true) : m = tn1 a b m d := by unfold tn1; rw [if_pos (of_decide_eq_true h)]
theorem tn1_n {a b m d : Int} (h : decide (b > a) = false) (h2 : decide (b < a) = true) : 0 - m = tn1 a b m d := by unfold tn1; rw [if_neg (of_decide_eq_false h), if_pos (of_decide_eq_true h2)]; omega
theorem tn1_z {a b m d : Int} (h : decide (b > a) = false) (h2 : decide (b < a) = false) : d = tn1 a b m d := by unfold tn1; rw [if_neg (of_decide_eq_false h), if_neg (of_decide_eq_false h2)]
theorem tn1_fc1 {a b m d : Int} (hm : m = 1 ∨ m = -1) : tn1 a b m d = fc1 a b m d := by
 unfold tn1 fc1
 rcases hm with rfl | rfl
 . simp only [Int.mul_one]
   repeat' split
   all_goals omega
 . have e : (b - a) * (-1) = a - b := by omega
   rw [e]
   repeat' split
   all_goals omega
end U
namespace Go.Proofs.YtneingpnkdeooaaGreat
open Go Go.HL U
attribute [local irreducible] hfun bodyT fragT
theorem sTnd : Sound Tryz.prog 56 STnd := by
 refine sound_of (C := CTnd) [] Tryz.func56 (by kernel_rfl) (by decide +kernel) (by kernel_rfl) rfl trivial (loopsAll (by kernel_rfl)) ?_
 intro hA pA R h
 unfold STnd at h
 split at h
 case h_2 => exfalso; exact h
 rename_i d0 d1 d2 a0 a1 a2 b0 b1 b2 m
 obtain ⟨hm, hq⟩ := h
 have hq : ∀ e0 e1 e2, e0 = tn1 a0 b0 m d0 -> e1 = tn1 a1 b1 m d1 -> e2 = tn1 a2 b2 m d2 -> R ⟨.agg [.int .i64 e0, .int .i64 e1, .int .i64 e2], false, [], []⟩ := fun e0 e1 e2 h0 h1 h2 => by rw [h0, h1, h2]; exact hq
 refine byVC (vcTnd d0 d1 d2 a0 a1 a2 b0 b1 b2 m R) ?_
 repeat' first | apply And.intro | (rintro _ rfl) | intro _
 all_goals first
  | exact hq _ _ _ (by first | exact tn1_p (by assumption) | exact tn1_n (by assumption) (by assumption) | exact tn1_z (by assumption) (by assumption)) (by first | exact tn1_p (by assumption) | exact tn1_n (by assumption) (by assumption) | exact tn1_z (by assumption) (by assumption)) (by first | exact tn1_p (by assumption) | exact tn1_n (by assumption) (by assumption) | exact tn1_z (by assumption) (by assumption))
  | omega
theorem sTake : Sound Tryz.prog 57 SSlack := by
 refine sound_of (C := CTake) [] Tryz.func57 (by kernel_rfl) (by decide +kernel) (by kernel_rfl) rfl trivial (loopsAll (by kernel_rfl)) ?_
 intro hA pA R h
 unfold SSlack at h
 split at h
 case h_2 => exfalso; exact h
 rename_i sta spa aca jea loa hia bla oga sga pta stb spb acb jeb lob hib blb ogb sgb ptb stc spc acc jec loc hic blc ogc sgc ptc w0 w1 w2 d0 d1 d2
 obtain ⟨_, hq⟩ := h
 have hq : ∀ e0 e1 e2, e0 = sl1 w0 d0 bla 0 -> e1 = sl1 w1 d1 blb e0 -> e2 = sl1 w2 d2 blc e1 -> R ⟨.ce (.int .i64 e2), false, [], []⟩ := fun e0 e1 e2 h0 h1 h2 => by rw [h2, h1, h0]; exact hq
 refine byVC (vcTake sta spa aca jea loa hia bla oga sga stb spb acb jeb lob hib blb ogb sgb stc spc acc jec loc hic blc ogc sgc pta ptb ptc w0 w1 w2 d0 d1 d2 R) ?_
 repeat' first | apply And.intro | (rintro _ rfl) | intro _
 all_goals first
  | exact hq _ _ _ (by first | exact sl1_t (by assumption) | exact sl1_f (by assumption)) (by first | exact sl1_t (by assumption) | exact sl1_f (by assumption)) (by first | exact sl1_t (by assumption) | exact sl1_f (by assumption))
  | omega
theorem sLeg1 : Sound Tryz.prog 54 SLeg1 := by
 refine sound_of (C := CLeg1) [] Tryz.func54 (by kernel_rfl) (by decide +kernel) (by kernel_rfl) rfl trivial (loops0 (by kernel_rfl)) ?_
 intro hA pA R h
 unfold SLeg1 at h
 split at h
 case h_2 => exfalso; exact h
 rename_i q0 q1 q2 q3 q4 q5 q6 q7 q8 q9 pk ln sa d0 d1 d2
 obtain ⟨⟨hq1, hln, hlen, hpk⟩, _, hq⟩ := h
 have app : ¬ (0 < pk.length /\ q3 ≠ 0 /\ ec pk (pk.length - 1) 3 = q3 /\ ec pk (pk.length - 1) 7 = q7 /\ ec pk (pk.length - 1) 8 = q8 /\ ec pk (pk.length - 1) 9 = q9) -> ∀ x : Int, x = ln + q1 ->
  R ⟨.tup [], false, [[.mu [4, 4, 4, 4, 4, 4, 4, 4, 4, 4] (pk ++ [[ln, q1, q2, q3, q4, q5, q6, q7, q8, q9]]), .int .i64 x, .int .i64 sa, .int .i64 d0, .int .i64 d1, .int .i64 d2]], []⟩ := by
  intro hh x e
  have := hq _ rfl
  rw [tadd_app hh] at this
  rw [e]
  exact this
 have grow : ∀ cap : Nat, pk.length <= cap -> (pk.length = pk.length /\ cap = cap /\ (pk.length + 1) * 80 <= 140737488355328 /\ pk.length + 1 <= maxLen) /\ (∃ x : Nat, pk.length + 1 <= x /\ x <= maxLen) := fun cap _ =>
  ⟨⟨rfl, rfl, by omega, by unfold maxLen; omega⟩, ⟨pk.length + 1, Nat.le_refl _, by unfold maxLen; omega⟩⟩
 have room : ∀ x : Nat, (pk.length + 1 = (pk ++ [[ln, q1, q2, q3, q4, q5, q6, q7, q8, q9]]).length /\ x = x /\ 0 < (pk ++ [[ln, q1, q2, q3, q4, q5, q6, q7, q8, q9]]).length) := fun x => by simp
 refine byVC (vcLeg1 q0 q1 q2 q3 q4 q5 q6 q7 q8 q9 ln sa d0 d1 d2 pk R) ⟨fun h0 => ?_, fun h0 cap hcap => ⟨fun g1 => ⟨fun g2 => ⟨by omega, fun x4 e4 => ⟨by omega, by omega, fun x5 e5 => ⟨fun g3 => ⟨by omega, fun x6 e6 => ⟨by omega, by omega, fun g4 => ?_, fun g4 => ?_⟩⟩, fun g3 => ?_⟩⟩⟩, fun g2 => ?_⟩, fun g1 => ?_⟩⟩
 . obtain rfl : pk = [] := List.eq_nil_of_length_eq_zero h0
   refine ⟨⟨by decide, by decide, by unfold maxLen; decide⟩, ⟨1, by decide, by unfold maxLen; decide⟩, fun x hx => ⟨⟨rfl, rfl, by decide⟩, by omega, fun x2 e2 => ?_⟩⟩
   exact app (fun hh => absurd hh.1 (by decide)) x2 e2
 . have g2 : q3 ≠ 0 := by simpa using g2
   have g3 : x5 = q3 := by simpa using g3
   have ht : x4.toNat = pk.length - 1 := by omega
   have ht6 : x6.toNat = pk.length - 1 := by omega
   rw [ht] at e5
   rw [ht6] at g4
   have g4 : ec pk (pk.length - 1) 7 = q7 /\ ec pk (pk.length - 1) 8 = q8 /\ ec pk (pk.length - 1) 9 = q9 := by simpa using g4
   have hb := hpk (pk.length - 1) (by omega)
   refine ⟨by omega, fun x7 e7 => ?_⟩
   have ht7 : x7.toNat = pk.length - 1 := by omega
   rw [ht7]
   refine ⟨by omega, by omega, fun x8 e8 => ⟨by omega, fun x9 e9 => ⟨by omega, by omega, ⟨by rw [List.length_set], rfl, by rw [List.length_set]; exact h0⟩, by omega, fun x10 e10 => ?_⟩⟩⟩
   have := hq _ rfl
   rw [tadd_more ⟨h0, g2, by rw [<- e5]; exact g3, g4⟩] at this
   rw [e10, e9, e8]
   exact this
 . have no : ¬ (ec pk (pk.length - 1) 7 = q7 /\ ec pk (pk.length - 1) 8 = q8 /\ ec pk (pk.length - 1) 9 = q9) := fun hh => by
    have ht6 : x6.toNat = pk.length - 1 := by omega
    rw [ht6, hh.1, hh.2.1, hh.2.2] at g4
    simp at g4
   exact ⟨(grow cap hcap.1).1, (grow cap hcap.1).2, fun x hx => ⟨room x, by omega, fun x12 e12 => app (fun hh => no hh.2.2.2) x12 e12⟩⟩
 . have no : ¬ ec pk (pk.length - 1) 3 = q3 := fun hh => by
    have ht : x4.toNat = pk.length - 1 := by omega
    rw [ht, hh] at e5
    rw [e5] at g3
    simp at g3
   exact ⟨(grow cap hcap.1).1, (grow cap hcap.1).2, fun x hx => ⟨room x, by omega, fun x12 e12 => app (fun hh => no hh.2.2.1) x12 e12⟩⟩
 . have no : ¬ q3 ≠ 0 := by simpa using g2
   exact ⟨(grow cap hcap.1).1, (grow cap hcap.1).2, fun x hx => ⟨room x, by omega, fun x12 e12 => app (fun hh => no hh.2.1) x12 e12⟩⟩
 . have g1 := of_decide_eq_false g1
   omega
theorem sLeg2 : Sound Tryz.prog 55 SLeg2 := by
 refine sound_of (C := CLeg2) tabLeg2 Tryz.func55 (by kernel_rfl) (by decide +kernel) (by kernel_rfl) rfl ⟨sTnd, sTake, sLeg1, trivial⟩ (loops0 (by kernel_rfl)) ?_
 intro hA pA R h
 unfold SLeg2 at h
 split at h
 case h_2 => exfalso; exact h
 rename_i a0 a1 a2 b0 b1 b2 s n w0 w1 w2 m ax g rs ex pk ln sa d0 d1 d2
 split at h
 case h_2 => exact h.elim
 rename_i sta spa aca jea loa hia bla oga sga pta stb spb acb jeb lob hib blb ogb sgb ptb stc spc acc jec loc hic blc ogc sgc ptc
 obtain ⟨⟨⟨hg, hrs, hex⟩, hm, hb, hn, hln, hlen, hpk⟩, _, hq⟩ := h
 unfold nl at hrs hex
 subst hg hrs hex
 refine byVC (vcLeg2 a0 a1 a2 b0 b1 b2 s n w0 w1 w2 m ln sa d0 d1 d2 pk sta spa aca jea loa hia bla oga sga stb spb acb jeb lob hib blb ogb sgb stc spc acc jec loc hic blc ogc sgc pta ptb ptc R) ⟨hm, ?_⟩
 rintro n0 h0 n1 h1 n2 h2
 rw [<- h0, <- h1, <- h2] at hq
 refine ⟨trivial, fun u hu => ?_⟩
 have hs := slk_bd hb w0 w1 w2 n0 n1 n2
 unfold vis at hq
 rw [<- hu] at hq hs
 unfold legTk at hq
 have bd : ∀ j, j < pk.length -> -2305843009213693952 <= ec pk j 1 /\ ec pk j 1 <= 2305843009213693952 := fun j hj => by have := hpk j hj; omega
 refine ⟨fun gu => ?_, fun gu => ?_⟩
 . rw [if_pos (of_decide_eq_true gu)] at hq
   refine ⟨⟨by omega, by omega, by omega, bd⟩, ⟨_, rfl⟩, fun y ey => ?_⟩
   obtain ⟨c1, c2, c3⟩ := tadd_inv (q := [0, u, s, 0, w0, w1, w2, n0, n1, n2]) hln.1 hpk hs.1
   have c1 : (tadd pk ln [0, u, s, 0, w0, w1, w2, n0, n1, n2]).2 = ln + u := c1
   have c3 : unitsOK (tadd pk ln [0, u, s, 0, w0, w1, w2, n0, n1, n2]).1 (ln + u) := c3
   rw [<- ey] at c1 c2 c3 hq
   exact ⟨⟨by omega, by omega, by omega, fun j hj => by have := c3 j hj; omega⟩, ⟨_, rfl⟩, fun z ez => hq z ez⟩
 . rw [if_neg (of_decide_eq_false gu)] at hq
   exact ⟨⟨by omega, by omega, by omega, bd⟩, ⟨_, rfl⟩, fun z ez => hq z ez⟩
end Go.Proofs.YtneingpnkdeooaaGreat
namespace U
open Go
def starts (sg : List (List Int)) : Nat -> List (List Int)
 | 0 => []
 | k + 1 => starts sg k ++ [[plen (sg.take k)]]
end U
namespace Go.Proofs.YtneingpnkdeooaaGreat
open Go Go.HL U
def SEach (hA : List HV) (pA : List (List HC)) : SR :=
 match hA, pA with
 | [.agg [.int .i64 s0, .int .i64 s1, .int .i64 s2, .sl false [4, 4, 4, 4, 4, 4, 4] sg, .sl false [4, 4, 4] mk], .ce (.int .i64 lo), .ce (.int .i64 hi), .ce (.int .i64 mv), .ce (.fn g rs ex)],
  [[.int .i64 w0, .int .i64 w1, .int .i64 w2], [.int .i64 m], ax, [.fn g2 r2 e2], [.mu [4, 4, 4, 4, 4, 4, 4, 4, 4, 4] pk, .int .i64 ln, .int .i64 sa, .int .i64 d0, .int .i64 d1, .int .i64 d2]] =>
  match ax with
  | [.int .i64 sta, .int .i64 spa, .int .i64 aca, .int .i64 jea, .int .i64 loa, .int .i64 hia, .int .i64 bla, .int .i64 oga, .int .i64 sga, .sl false [4] pta, .int .i64 stb, .int .i64 spb, .int .i64 acb, .int .i64 jeb, .int .i64 lob, .int .i64 hib, .int .i64 blb, .int .i64 ogb, .int .i64 sgb, .sl false [4] ptb, .int .i64 stc, .int .i64 spc, .int .i64 acc, .int .i64 jec, .int .i64 loc, .int .i64 hic, .int .i64 blc, .int .i64 ogc, .int .i64 sgc, .sl false [4] ptc] =>
   .all ((g = 55 /\ nl rs [0, 1, 2, 3] /\ nl ex [4]) /\ (g2 = 54 /\ nl r2 [4] /\ nl e2 []) /\ mv = m /\ (m = 1 ∨ m = -1) /\ (0 <= lo /\ lo <= hi /\ hi <= plen sg) /\ okLen sg /\ okPts s0 s1 s2 sg /\ okB3 bla blb blc /\ pk.length = 0 /\ ln = 0)
    LegS (fun x => x = legK s0 s1 s2 sg bla blb blc lo hi m ⟨[], 0, w0, w1, w2, if m < 0 then plen sg else 0⟩ sg.length)
    (fun x => ⟨.tup [], false, [[.int .i64 x.a0, .int .i64 x.a1, .int .i64 x.a2], [.int .i64 m], [.int .i64 sta, .int .i64 spa, .int .i64 aca, .int .i64 jea, .int .i64 loa, .int .i64 hia, .int .i64 bla, .int .i64 oga, .int .i64 sga, .sl false [4] pta, .int .i64 stb, .int .i64 spb, .int .i64 acb, .int .i64 jeb, .int .i64 lob, .int .i64 hib, .int .i64 blb, .int .i64 ogb, .int .i64 sgb, .sl false [4] ptb, .int .i64 stc, .int .i64 spc, .int .i64 acc, .int .i64 jec, .int .i64 loc, .int .i64 hic, .int .i64 blc, .int .i64 ogc, .int .i64 sgc, .sl false [4] ptc], [.fn 54 [4] []], [.mu [4, 4, 4, 4, 4, 4, 4, 4, 4, 4] x.pk, .int .i64 x.ln, .int .i64 sa, .int .i64 d0, .int .i64 d1, .int .i64 d2]], []⟩)
  | _ => .fail
 | _, _ => .fail
def tabEach : List (FuncId × HL.Spec) := [(55, SLeg2)]
def anE1 : LAnn := ⟨[1, 2, 3, 4, 5, 10, 11, 100011, 21, 22, 23], [1, 2, 3, 4, 5, 11, 100011], [1000005, 0, 1, 2, 3, 4], false⟩
def LE1 (v : LV) : LR :=
 match v with
 | ([.ce (.int .i64 lo), .ce (.int .i64 hi), .ce (.int .i64 mv), .ce (.fn g rs ex), .ce (.ptr 1000005 0), .ce (.int .i64 t), .ce (.sl false [4] st), .ce (.lit true), .ce (.sl false [4, 4, 4, 4, 4, 4, 4] l), .ce (.int .i64 n), .ce (.int .i64 i)],
  [[.int .i64 s0, .int .i64 s1, .int .i64 s2, .sl false [4, 4, 4, 4, 4, 4, 4] sg, .sl false [4, 4, 4] mk], [.int .i64 w0, .int .i64 w1, .int .i64 w2], [.int .i64 m], ax, [.fn g2 r2 e2], [.mu [4, 4, 4, 4, 4, 4, 4, 4, 4, 4] pk, .int .i64 ln, .int .i64 sa, .int .i64 d0, .int .i64 d1, .int .i64 d2]]) =>
  match ax with
  | [.int .i64 sta, .int .i64 spa, .int .i64 aca, .int .i64 jea, .int .i64 loa, .int .i64 hia, .int .i64 bla, .int .i64 oga, .int .i64 sga, .sl false [4] pta, .int .i64 stb, .int .i64 spb, .int .i64 acb, .int .i64 jeb, .int .i64 lob, .int .i64 hib, .int .i64 blb, .int .i64 ogb, .int .i64 sgb, .sl false [4] ptb, .int .i64 stc, .int .i64 spc, .int .i64 acc, .int .i64 jec, .int .i64 loc, .int .i64 hic, .int .i64 blc, .int .i64 ogc, .int .i64 sgc, .sl false [4] ptc] =>
   .all (n = l.length /\ i = 0 /\ t = 0 /\ st.length = 0 /\ okLen l /\ (g = 55 /\ nl rs [0, 1, 2, 3] /\ nl ex [4]) /\ (g2 = 54 /\ nl r2 [4] /\ nl e2 [])) (List (List Int)) (fun x => x = starts l l.length) (fun _ => .exit 0)
    (fun x => ([.ce (.int .i64 lo), .ce (.int .i64 hi), .ce (.int .i64 mv), .ce (.fn 55 [0, 1, 2, 3] [4]), .ce (.ptr 1000005 0), .ce (.sl false [4] x), .ce (.lit true)],
     [[.int .i64 s0, .int .i64 s1, .int .i64 s2, .sl false [4, 4, 4, 4, 4, 4, 4] sg, .sl false [4, 4, 4] mk], [.int .i64 w0, .int .i64 w1, .int .i64 w2], [.int .i64 m], [.int .i64 sta, .int .i64 spa, .int .i64 aca, .int .i64 jea, .int .i64 loa, .int .i64 hia, .int .i64 bla, .int .i64 oga, .int .i64 sga, .sl false [4] pta, .int .i64 stb, .int .i64 spb, .int .i64 acb, .int .i64 jeb, .int .i64 lob, .int .i64 hib, .int .i64 blb, .int .i64 ogb, .int .i64 sgb, .sl false [4] ptb, .int .i64 stc, .int .i64 spc, .int .i64 acc, .int .i64 jec, .int .i64 loc, .int .i64 hic, .int .i64 blc, .int .i64 ogc, .int .i64 sgc, .sl false [4] ptc], [.fn 54 [4] []], [.mu [4, 4, 4, 4, 4, 4, 4, 4, 4, 4] pk, .int .i64 ln, .int .i64 sa, .int .i64 d0, .int .i64 d1, .int .i64 d2]]))
  | _ => .fail
 | _ => .fail
def anE2 : LAnn := ⟨[1, 2, 3, 4, 5, 11, 38, 39], [], [1000005, 0, 1, 2, 3, 4], false⟩
def LE2 (v : LV) : LR :=
 match v with
 | ([.ce (.int .i64 lo), .ce (.int .i64 hi), .ce (.int .i64 mv), .ce (.fn g rs ex), .ce (.ptr 1000005 0), .ce (.sl false [4] st), .ce (.int .i64 n), .ce (.int .i64 k)],
  [[.int .i64 s0, .int .i64 s1, .int .i64 s2, .sl false [4, 4, 4, 4, 4, 4, 4] sg, .sl false [4, 4, 4] mk], [.int .i64 w0, .int .i64 w1, .int .i64 w2], [.int .i64 m], ax, [.fn g2 r2 e2], [.mu [4, 4, 4, 4, 4, 4, 4, 4, 4, 4] pk, .int .i64 ln, .int .i64 sa, .int .i64 d0, .int .i64 d1, .int .i64 d2]]) =>
  match ax with
  | [.int .i64 sta, .int .i64 spa, .int .i64 aca, .int .i64 jea, .int .i64 loa, .int .i64 hia, .int .i64 bla, .int .i64 oga, .int .i64 sga, .sl false [4] pta, .int .i64 stb, .int .i64 spb, .int .i64 acb, .int .i64 jeb, .int .i64 lob, .int .i64 hib, .int .i64 blb, .int .i64 ogb, .int .i64 sgb, .sl false [4] ptb, .int .i64 stc, .int .i64 spc, .int .i64 acc, .int .i64 jec, .int .i64 loc, .int .i64 hic, .int .i64 blc, .int .i64 ogc, .int .i64 sgc, .sl false [4] ptc] =>
   .all (n = sg.length /\ k = 0 /\ st = starts sg sg.length /\ (g = 55 /\ nl rs [0, 1, 2, 3] /\ nl ex [4]) /\ (g2 = 54 /\ nl r2 [4] /\ nl e2 []) /\ mv = m /\ (m = 1 ∨ m = -1) /\ (0 <= lo /\ lo <= hi /\ hi <= plen sg) /\ okLen sg /\ okPts s0 s1 s2 sg /\ okB3 bla blb blc /\ pk.length = 0 /\ ln = 0) LegS
    (fun x => x = legK s0 s1 s2 sg bla blb blc lo hi m ⟨[], 0, w0, w1, w2, if m < 0 then plen sg else 0⟩ sg.length) (fun _ => .exit 2)
    (fun x => ([], [[.int .i64 s0, .int .i64 s1, .int .i64 s2, .sl false [4, 4, 4, 4, 4, 4, 4] sg, .sl false [4, 4, 4] mk], [.int .i64 x.a0, .int .i64 x.a1, .int .i64 x.a2], [.int .i64 m], [.int .i64 sta, .int .i64 spa, .int .i64 aca, .int .i64 jea, .int .i64 loa, .int .i64 hia, .int .i64 bla, .int .i64 oga, .int .i64 sga, .sl false [4] pta, .int .i64 stb, .int .i64 spb, .int .i64 acb, .int .i64 jeb, .int .i64 lob, .int .i64 hib, .int .i64 blb, .int .i64 ogb, .int .i64 sgb, .sl false [4] ptb, .int .i64 stc, .int .i64 spc, .int .i64 acc, .int .i64 jec, .int .i64 loc, .int .i64 hic, .int .i64 blc, .int .i64 ogc, .int .i64 sgc, .sl false [4] ptc], [.fn 54 [4] []], [.mu [4, 4, 4, 4, 4, 4, 4, 4, 4, 4] x.pk, .int .i64 x.ln, .int .i64 sa, .int .i64 d0, .int .i64 d1, .int .i64 d2]]))
  | _ => .fail
 | _ => .fail
noncomputable def CEach : Ctx := ⟨Tryz.prog, gam tabEach, Tryz.f58.ntmps, [(4, anE1, LE1), (10, anE2, LE2)], []⟩
theorem vbE1 (s0 s1 s2 lo hi mv t n i w0 w1 w2 m ln sa d0 d1 d2 : Int) (sg mk l st pk : List (List Int)) (sta spa aca jea loa hia bla oga sga stb spb acb jeb lob hib blb ogb sgb stc spc acc jec loc hic blc ogc sgc : Int) (pta ptb ptc : List (List Int)) (K : HEx -> LV -> Prop) : (nbodyT true CEach anE1 (nthLoop Tryz.f58 0) (([.ce (I6 lo), .ce (I6 hi), .ce (I6 mv), .ce (.fn 55 [0, 1, 2, 3] [4]), .ce (.ptr 1000005 0), .ce (I6 t), .ce (.sl false [4] st), .ce (.lit true), .ce (.sl false [4, 4, 4, 4, 4, 4, 4] l), .ce (I6 n), .ce (I6 i)], [[I6 s0, I6 s1, I6 s2, .sl false [4, 4, 4, 4, 4, 4, 4] sg, .sl false [4, 4, 4] mk], [I6 w0, I6 w1, I6 w2], [I6 m], [I6 sta, I6 spa, I6 aca, I6 jea, I6 loa, I6 hia, I6 bla, I6 oga, I6 sga, .sl false [4] pta, I6 stb, I6 spb, I6 acb, I6 jeb, I6 lob, I6 hib, I6 blb, I6 ogb, I6 sgb, .sl false [4] ptb, I6 stc, I6 spc, I6 acc, I6 jec, I6 loc, I6 hic, I6 blc, I6 ogc, I6 sgc, .sl false [4] ptc], [.fn 54 [4] []], [.mu [4, 4, 4, 4, 4, 4, 4, 4, 4, 4] pk, I6 ln, I6 sa, I6 d0, I6 d1, I6 d2]])) K) =
 ((decide (i < n) = true -> (0 <= i /\ i < (l.length : Int)) /\ ((st.length + 1) * 8 <= 140737488355328 /\ st.length + 1 <= maxLen) /\ (-9223372036854775808 <= t + ec l i.toNat 3 /\ t + ec l i.toNat 3 <= 9223372036854775807) /\ ∀ (x1 : Int), x1 = t + ec l i.toNat 3 -> (-9223372036854775808 <= i + 1 /\ i + 1 <= 9223372036854775807) /\ ∀ (x2 : Int), x2 = i + 1 -> K .normal ([.ce (I6 lo), .ce (I6 hi), .ce (I6 mv), .ce (.fn (55 : FuncId) [0, 1, 2, 3] [4]), .ce (.ptr 1000005 0), .ce (I6 x1), .ce (.sl false [4] (st ++ [[t]])), .ce (.lit true), .ce (.sl false [4, 4, 4, 4, 4, 4, 4] l), .ce (I6 n), .ce (I6 x2)], [[I6 s0, I6 s1, I6 s2, .sl false [4, 4, 4, 4, 4, 4, 4] sg, .sl false [4, 4, 4] mk], [I6 w0, I6 w1, I6 w2], [I6 m], [I6 sta, I6 spa, I6 aca, I6 jea, I6 loa, I6 hia, I6 bla, I6 oga, I6 sga, .sl false [4] pta, I6 stb, I6 spb, I6 acb, I6 jeb, I6 lob, I6 hib, I6 blb, I6 ogb, I6 sgb, .sl false [4] ptb, I6 stc, I6 spc, I6 acc, I6 jec, I6 loc, I6 hic, I6 blc, I6 ogc, I6 sgc, .sl false [4] ptc], [.fn (54 : FuncId) [4] []], [.mu [4, 4, 4, 4, 4, 4, 4, 4, 4, 4] pk, I6 ln, I6 sa, I6 d0, I6 d1, I6 d2]])) /\
 (decide (i < n) = false -> K (.exit 0) ([.ce (I6 lo), .ce (I6 hi), .ce (I6 mv), .ce (.fn (55 : FuncId) [0, 1, 2, 3] [4]), .ce (.ptr 1000005 0), .ce (.sl false [4] st), .ce (.lit true)], [[I6 s0, I6 s1, I6 s2, .sl false [4, 4, 4, 4, 4, 4, 4] sg, .sl false [4, 4, 4] mk], [I6 w0, I6 w1, I6 w2], [I6 m], [I6 sta, I6 spa, I6 aca, I6 jea, I6 loa, I6 hia, I6 bla, I6 oga, I6 sga, .sl false [4] pta, I6 stb, I6 spb, I6 acb, I6 jeb, I6 lob, I6 hib, I6 blb, I6 ogb, I6 sgb, .sl false [4] ptb, I6 stc, I6 spc, I6 acc, I6 jec, I6 loc, I6 hic, I6 blc, I6 ogc, I6 sgc, .sl false [4] ptc], [.fn (54 : FuncId) [4] []], [.mu [4, 4, 4, 4, 4, 4, 4, 4, 4, 4] pk, I6 ln, I6 sa, I6 d0, I6 d1, I6 d2]]))) := by kernel_rfl
theorem vbE2 (s0 s1 s2 lo hi mv n k w0 w1 w2 m ln sa d0 d1 d2 : Int) (sg mk st pk : List (List Int)) (sta spa aca jea loa hia bla oga sga stb spb acb jeb lob hib blb ogb sgb stc spc acc jec loc hic blc ogc sgc : Int) (pta ptb ptc : List (List Int)) (K : HEx -> LV -> Prop) : (nbodyT true CEach anE2 (nthLoop Tryz.f58 1) (([.ce (I6 lo), .ce (I6 hi), .ce (I6 mv), .ce (.fn 55 [0, 1, 2, 3] [4]), .ce (.ptr 1000005 0), .ce (.sl false [4] st), .ce (I6 n), .ce (I6 k)], [[I6 s0, I6 s1, I6 s2, .sl false [4, 4, 4, 4, 4, 4, 4] sg, .sl false [4, 4, 4] mk], [I6 w0, I6 w1, I6 w2], [I6 m], [I6 sta, I6 spa, I6 aca, I6 jea, I6 loa, I6 hia, I6 bla, I6 oga, I6 sga, .sl false [4] pta, I6 stb, I6 spb, I6 acb, I6 jeb, I6 lob, I6 hib, I6 blb, I6 ogb, I6 sgb, .sl false [4] ptb, I6 stc, I6 spc, I6 acc, I6 jec, I6 loc, I6 hic, I6 blc, I6 ogc, I6 sgc, .sl false [4] ptc], [.fn 54 [4] []], [.mu [4, 4, 4, 4, 4, 4, 4, 4, 4, 4] pk, I6 ln, I6 sa, I6 d0, I6 d1, I6 d2]])) K) =
 ((decide (k < n) = true -> (decide (mv < 0) = true -> (-9223372036854775808 <= (sg.length : Int) - 1 /\ (sg.length : Int) - 1 <= 9223372036854775807) /\ ∀ (x1 : Int), x1 = (sg.length : Int) - 1 -> (-9223372036854775808 <= x1 - k /\ x1 - k <= 9223372036854775807) /\ ∀ (x2 : Int), x2 = x1 - k -> (0 <= x2 /\ x2 < (st.length : Int)) /\ ∀ (x3 : Int), x3 = el st x2.toNat -> ∀ (x4 : Int), x4 = max x3 lo -> (0 <= x2 /\ x2 < (st.length : Int)) /\ ∀ (x5 : Int), x5 = el st x2.toNat -> (0 <= x2 /\ x2 < (sg.length : Int)) /\ ∀ (x6 : Int), x6 = ec sg x2.toNat 3 -> (-9223372036854775808 <= x5 + x6 /\ x5 + x6 <= 9223372036854775807) /\ ∀ (x7 : Int), x7 = x5 + x6 -> ∀ (x8 : Int), x8 = min x7 hi -> (decide (x4 >= x8) = true -> (-9223372036854775808 <= k + 1 /\ k + 1 <= 9223372036854775807) /\ ∀ (x9 : Int), x9 = k + 1 -> K .normal ([.ce (I6 lo), .ce (I6 hi), .ce (I6 mv), .ce (.fn (55 : FuncId) [0, 1, 2, 3] [4]), .ce (.ptr 1000005 0), .ce (.sl false [4] st), .ce (I6 n), .ce (I6 x9)], [[I6 s0, I6 s1, I6 s2, .sl false [4, 4, 4, 4, 4, 4, 4] sg, .sl false [4, 4, 4] mk], [I6 w0, I6 w1, I6 w2], [I6 m], [I6 sta, I6 spa, I6 aca, I6 jea, I6 loa, I6 hia, I6 bla, I6 oga, I6 sga, .sl false [4] pta, I6 stb, I6 spb, I6 acb, I6 jeb, I6 lob, I6 hib, I6 blb, I6 ogb, I6 sgb, .sl false [4] ptb, I6 stc, I6 spc, I6 acc, I6 jec, I6 loc, I6 hic, I6 blc, I6 ogc, I6 sgc, .sl false [4] ptc], [.fn (54 : FuncId) [4] []], [.mu [4, 4, 4, 4, 4, 4, 4, 4, 4, 4] pk, I6 ln, I6 sa, I6 d0, I6 d1, I6 d2]])) /\
 (decide (x4 >= x8) = false -> (decide (x2 > 0) = true -> (-9223372036854775808 <= x2 - 1 /\ x2 - 1 <= 9223372036854775807) /\ ∀ (x10 : Int), x10 = x2 - 1 -> (0 <= x10 /\ x10 < (sg.length : Int)) /\ (decide (mv < 0) = true -> (0 <= x2 /\ x2 < (sg.length : Int)) /\ (-9223372036854775808 <= x8 - x4 /\ x8 - x4 <= 9223372036854775807) /\ ∀ (x11 : Int), x11 = x8 - x4 -> (((54 : FuncId) = (54 : FuncId) /\ nl [4] [4] /\ nl [] []) /\ (m = 1 ∨ m = (-1 : Int)) /\ okB3 bla blb blc /\ (0 <= x11 /\ x11 <= 1152921504606846976) /\ (0 <= ln /\ ln <= 1152921504606846976) /\ pk.length <= 100000000000 /\ ∀ (j : Nat), j < pk.length -> 0 <= ec pk j 1 /\ ec pk j 1 <= ln) /\ (∃ (x : List (List Int) × Int), x = vis bla blb blc m x8 x11 (tn1 (el sg x10.toNat) (el sg x2.toNat) m w0) (tn1 (ec sg x10.toNat 1) (ec sg x2.toNat 1) m w1) (tn1 (ec sg x10.toNat 2) (ec sg x2.toNat 2) m w2) pk ln w0 w1 w2) /\ ∀ (x : List (List Int) × Int), x = vis bla blb blc m x8 x11 (tn1 (el sg x10.toNat) (el sg x2.toNat) m w0) (tn1 (ec sg x10.toNat 1) (ec sg x2.toNat 1) m w1) (tn1 (ec sg x10.toNat 2) (ec sg x2.toNat 2) m w2) pk ln w0 w1 w2 ->
 (-9223372036854775808 <= k + 1 /\ k + 1 <= 9223372036854775807) /\ ∀ (x14 : Int), x14 = k + 1 -> K .normal ([.ce (I6 lo), .ce (I6 hi), .ce (I6 mv), .ce (.fn (55 : FuncId) [0, 1, 2, 3] [4]), .ce (.ptr 1000005 0), .ce (.sl false [4] st), .ce (I6 n), .ce (I6 x14)], [[I6 s0, I6 s1, I6 s2, .sl false [4, 4, 4, 4, 4, 4, 4] sg, .sl false [4, 4, 4] mk], [I6 (tn1 (el sg x10.toNat) (el sg x2.toNat) m w0), I6 (tn1 (ec sg x10.toNat 1) (ec sg x2.toNat 1) m w1), I6 (tn1 (ec sg x10.toNat 2) (ec sg x2.toNat 2) m w2)], [I6 m], [I6 sta, I6 spa, I6 aca, I6 jea, I6 loa, I6 hia, I6 bla, I6 oga, I6 sga, .sl false [4] pta, I6 stb, I6 spb, I6 acb, I6 jeb, I6 lob, I6 hib, I6 blb, I6 ogb, I6 sgb, .sl false [4] ptb, I6 stc, I6 spc, I6 acc, I6 jec, I6 loc, I6 hic, I6 blc, I6 ogc, I6 sgc, .sl false [4] ptc], [.fn (54 : FuncId) [4] []], [.mu [4, 4, 4, 4, 4, 4, 4, 4, 4, 4] x.1, I6 x.2, I6 sa, I6 d0, I6 d1, I6 d2]])) /\
 (decide (mv < 0) = false -> (0 <= x2 /\ x2 < (sg.length : Int)) /\ (-9223372036854775808 <= x8 - x4 /\ x8 - x4 <= 9223372036854775807) /\ ∀ (x15 : Int), x15 = x8 - x4 -> (((54 : FuncId) = (54 : FuncId) /\ nl [4] [4] /\ nl [] []) /\ (m = 1 ∨ m = (-1 : Int)) /\ okB3 bla blb blc /\ (0 <= x15 /\ x15 <= 1152921504606846976) /\ (0 <= ln /\ ln <= 1152921504606846976) /\ pk.length <= 100000000000 /\ ∀ (j : Nat), j < pk.length -> 0 <= ec pk j 1 /\ ec pk j 1 <= ln) /\ (∃ (x : List (List Int) × Int), x = vis bla blb blc m x4 x15 (tn1 (el sg x10.toNat) (el sg x2.toNat) m w0) (tn1 (ec sg x10.toNat 1) (ec sg x2.toNat 1) m w1) (tn1 (ec sg x10.toNat 2) (ec sg x2.toNat 2) m w2) pk ln w0 w1 w2) /\ ∀ (x : List (List Int) × Int), x = vis bla blb blc m x4 x15 (tn1 (el sg x10.toNat) (el sg x2.toNat) m w0) (tn1 (ec sg x10.toNat 1) (ec sg x2.toNat 1) m w1) (tn1 (ec sg x10.toNat 2) (ec sg x2.toNat 2) m w2) pk ln w0 w1 w2 ->
 (-9223372036854775808 <= k + 1 /\ k + 1 <= 9223372036854775807) /\ ∀ (x18 : Int), x18 = k + 1 -> K .normal ([.ce (I6 lo), .ce (I6 hi), .ce (I6 mv), .ce (.fn (55 : FuncId) [0, 1, 2, 3] [4]), .ce (.ptr 1000005 0), .ce (.sl false [4] st), .ce (I6 n), .ce (I6 x18)], [[I6 s0, I6 s1, I6 s2, .sl false [4, 4, 4, 4, 4, 4, 4] sg, .sl false [4, 4, 4] mk], [I6 (tn1 (el sg x10.toNat) (el sg x2.toNat) m w0), I6 (tn1 (ec sg x10.toNat 1) (ec sg x2.toNat 1) m w1), I6 (tn1 (ec sg x10.toNat 2) (ec sg x2.toNat 2) m w2)], [I6 m], [I6 sta, I6 spa, I6 aca, I6 jea, I6 loa, I6 hia, I6 bla, I6 oga, I6 sga, .sl false [4] pta, I6 stb, I6 spb, I6 acb, I6 jeb, I6 lob, I6 hib, I6 blb, I6 ogb, I6 sgb, .sl false [4] ptb, I6 stc, I6 spc, I6 acc, I6 jec, I6 loc, I6 hic, I6 blc, I6 ogc, I6 sgc, .sl false [4] ptc], [.fn (54 : FuncId) [4] []], [.mu [4, 4, 4, 4, 4, 4, 4, 4, 4, 4] x.1, I6 x.2, I6 sa, I6 d0, I6 d1, I6 d2]]))) /\
 (decide (x2 > 0) = false -> (decide (mv < 0) = true -> (0 <= x2 /\ x2 < (sg.length : Int)) /\ (-9223372036854775808 <= x8 - x4 /\ x8 - x4 <= 9223372036854775807) /\ ∀ (x19 : Int), x19 = x8 - x4 -> (((54 : FuncId) = (54 : FuncId) /\ nl [4] [4] /\ nl [] []) /\ (m = 1 ∨ m = (-1 : Int)) /\ okB3 bla blb blc /\ (0 <= x19 /\ x19 <= 1152921504606846976) /\ (0 <= ln /\ ln <= 1152921504606846976) /\ pk.length <= 100000000000 /\ ∀ (j : Nat), j < pk.length -> 0 <= ec pk j 1 /\ ec pk j 1 <= ln) /\ (∃ (x : List (List Int) × Int), x = vis bla blb blc m x8 x19 (tn1 s0 (el sg x2.toNat) m w0) (tn1 s1 (ec sg x2.toNat 1) m w1) (tn1 s2 (ec sg x2.toNat 2) m w2) pk ln w0 w1 w2) /\ ∀ (x : List (List Int) × Int), x = vis bla blb blc m x8 x19 (tn1 s0 (el sg x2.toNat) m w0) (tn1 s1 (ec sg x2.toNat 1) m w1) (tn1 s2 (ec sg x2.toNat 2) m w2) pk ln w0 w1 w2 -> (-9223372036854775808 <= k + 1 /\ k + 1 <= 9223372036854775807) /\ ∀ (x22 : Int), x22 = k + 1 ->
 K .normal ([.ce (I6 lo), .ce (I6 hi), .ce (I6 mv), .ce (.fn (55 : FuncId) [0, 1, 2, 3] [4]), .ce (.ptr 1000005 0), .ce (.sl false [4] st), .ce (I6 n), .ce (I6 x22)], [[I6 s0, I6 s1, I6 s2, .sl false [4, 4, 4, 4, 4, 4, 4] sg, .sl false [4, 4, 4] mk], [I6 (tn1 s0 (el sg x2.toNat) m w0), I6 (tn1 s1 (ec sg x2.toNat 1) m w1), I6 (tn1 s2 (ec sg x2.toNat 2) m w2)], [I6 m], [I6 sta, I6 spa, I6 aca, I6 jea, I6 loa, I6 hia, I6 bla, I6 oga, I6 sga, .sl false [4] pta, I6 stb, I6 spb, I6 acb, I6 jeb, I6 lob, I6 hib, I6 blb, I6 ogb, I6 sgb, .sl false [4] ptb, I6 stc, I6 spc, I6 acc, I6 jec, I6 loc, I6 hic, I6 blc, I6 ogc, I6 sgc, .sl false [4] ptc], [.fn (54 : FuncId) [4] []], [.mu [4, 4, 4, 4, 4, 4, 4, 4, 4, 4] x.1, I6 x.2, I6 sa, I6 d0, I6 d1, I6 d2]])) /\
 (decide (mv < 0) = false -> (0 <= x2 /\ x2 < (sg.length : Int)) /\ (-9223372036854775808 <= x8 - x4 /\ x8 - x4 <= 9223372036854775807) /\ ∀ (x23 : Int), x23 = x8 - x4 -> (((54 : FuncId) = (54 : FuncId) /\ nl [4] [4] /\ nl [] []) /\ (m = 1 ∨ m = (-1 : Int)) /\ okB3 bla blb blc /\ (0 <= x23 /\ x23 <= 1152921504606846976) /\ (0 <= ln /\ ln <= 1152921504606846976) /\ pk.length <= 100000000000 /\ ∀ (j : Nat), j < pk.length -> 0 <= ec pk j 1 /\ ec pk j 1 <= ln) /\ (∃ (x : List (List Int) × Int), x = vis bla blb blc m x4 x23 (tn1 s0 (el sg x2.toNat) m w0) (tn1 s1 (ec sg x2.toNat 1) m w1) (tn1 s2 (ec sg x2.toNat 2) m w2) pk ln w0 w1 w2) /\ ∀ (x : List (List Int) × Int), x = vis bla blb blc m x4 x23 (tn1 s0 (el sg x2.toNat) m w0) (tn1 s1 (ec sg x2.toNat 1) m w1) (tn1 s2 (ec sg x2.toNat 2) m w2) pk ln w0 w1 w2 -> (-9223372036854775808 <= k + 1 /\ k + 1 <= 9223372036854775807) /\ ∀ (x26 : Int), x26 = k + 1 -> K .normal ([.ce (I6 lo), .ce (I6 hi), .ce (I6 mv), .ce (.fn (55 : FuncId) [0, 1, 2, 3] [4]), .ce (.ptr 1000005 0), .ce (.sl false [4] st), .ce (I6 n), .ce (I6 x26)], [[I6 s0, I6 s1, I6 s2, .sl false [4, 4, 4, 4, 4, 4, 4] sg, .sl false [4, 4, 4] mk], [I6 (tn1 s0 (el sg x2.toNat) m w0), I6 (tn1 s1 (ec sg x2.toNat 1) m w1), I6 (tn1 s2 (ec sg x2.toNat 2) m w2)], [I6 m], [I6 sta, I6 spa, I6 aca, I6 jea, I6 loa, I6 hia, I6 bla, I6 oga, I6 sga, .sl false [4] pta, I6 stb, I6 spb, I6 acb, I6 jeb, I6 lob, I6 hib, I6 blb, I6 ogb, I6 sgb, .sl false [4] ptb, I6 stc, I6 spc, I6 acc, I6 jec, I6 loc, I6 hic, I6 blc, I6 ogc, I6 sgc, .sl false [4] ptc], [.fn (54 : FuncId) [4] []], [.mu [4, 4, 4, 4, 4, 4, 4, 4, 4, 4] x.1, I6 x.2, I6 sa, I6 d0, I6 d1, I6 d2]]))))) /\
 (decide (mv < 0) = false -> (0 <= k /\ k < (st.length : Int)) /\ ∀ (x27 : Int), x27 = el st k.toNat -> ∀ (x28 : Int), x28 = max x27 lo -> (0 <= k /\ k < (st.length : Int)) /\ ∀ (x29 : Int), x29 = el st k.toNat -> (0 <= k /\ k < (sg.length : Int)) /\ ∀ (x30 : Int), x30 = ec sg k.toNat 3 -> (-9223372036854775808 <= x29 + x30 /\ x29 + x30 <= 9223372036854775807) /\ ∀ (x31 : Int), x31 = x29 + x30 -> ∀ (x32 : Int), x32 = min x31 hi -> (decide (x28 >= x32) = true -> (-9223372036854775808 <= k + 1 /\ k + 1 <= 9223372036854775807) /\ ∀ (x33 : Int), x33 = k + 1 -> K .normal ([.ce (I6 lo), .ce (I6 hi), .ce (I6 mv), .ce (.fn (55 : FuncId) [0, 1, 2, 3] [4]), .ce (.ptr 1000005 0), .ce (.sl false [4] st), .ce (I6 n), .ce (I6 x33)], [[I6 s0, I6 s1, I6 s2, .sl false [4, 4, 4, 4, 4, 4, 4] sg, .sl false [4, 4, 4] mk], [I6 w0, I6 w1, I6 w2], [I6 m], [I6 sta, I6 spa, I6 aca, I6 jea, I6 loa, I6 hia, I6 bla, I6 oga, I6 sga, .sl false [4] pta, I6 stb, I6 spb, I6 acb, I6 jeb, I6 lob, I6 hib, I6 blb, I6 ogb, I6 sgb, .sl false [4] ptb, I6 stc, I6 spc, I6 acc, I6 jec, I6 loc, I6 hic, I6 blc, I6 ogc, I6 sgc, .sl false [4] ptc], [.fn (54 : FuncId) [4] []], [.mu [4, 4, 4, 4, 4, 4, 4, 4, 4, 4] pk, I6 ln, I6 sa, I6 d0, I6 d1, I6 d2]])) /\
 (decide (x28 >= x32) = false -> (decide (k > 0) = true -> (-9223372036854775808 <= k - 1 /\ k - 1 <= 9223372036854775807) /\ ∀ (x34 : Int), x34 = k - 1 -> (0 <= x34 /\ x34 < (sg.length : Int)) /\ (decide (mv < 0) = true -> (0 <= k /\ k < (sg.length : Int)) /\ (-9223372036854775808 <= x32 - x28 /\ x32 - x28 <= 9223372036854775807) /\ ∀ (x35 : Int), x35 = x32 - x28 -> (((54 : FuncId) = (54 : FuncId) /\ nl [4] [4] /\ nl [] []) /\ (m = 1 ∨ m = (-1 : Int)) /\ okB3 bla blb blc /\ (0 <= x35 /\ x35 <= 1152921504606846976) /\ (0 <= ln /\ ln <= 1152921504606846976) /\ pk.length <= 100000000000 /\ ∀ (j : Nat), j < pk.length -> 0 <= ec pk j 1 /\ ec pk j 1 <= ln) /\ (∃ (x : List (List Int) × Int), x = vis bla blb blc m x32 x35 (tn1 (el sg x34.toNat) (el sg k.toNat) m w0) (tn1 (ec sg x34.toNat 1) (ec sg k.toNat 1) m w1) (tn1 (ec sg x34.toNat 2) (ec sg k.toNat 2) m w2) pk ln w0 w1 w2) /\ ∀ (x : List (List Int) × Int), x = vis bla blb blc m x32 x35 (tn1 (el sg x34.toNat) (el sg k.toNat) m w0) (tn1 (ec sg x34.toNat 1) (ec sg k.toNat 1) m w1) (tn1 (ec sg x34.toNat 2) (ec sg k.toNat 2) m w2) pk ln w0 w1 w2 ->
 (-9223372036854775808 <= k + 1 /\ k + 1 <= 9223372036854775807) /\ ∀ (x38 : Int), x38 = k + 1 -> K .normal ([.ce (I6 lo), .ce (I6 hi), .ce (I6 mv), .ce (.fn (55 : FuncId) [0, 1, 2, 3] [4]), .ce (.ptr 1000005 0), .ce (.sl false [4] st), .ce (I6 n), .ce (I6 x38)], [[I6 s0, I6 s1, I6 s2, .sl false [4, 4, 4, 4, 4, 4, 4] sg, .sl false [4, 4, 4] mk], [I6 (tn1 (el sg x34.toNat) (el sg k.toNat) m w0), I6 (tn1 (ec sg x34.toNat 1) (ec sg k.toNat 1) m w1), I6 (tn1 (ec sg x34.toNat 2) (ec sg k.toNat 2) m w2)], [I6 m], [I6 sta, I6 spa, I6 aca, I6 jea, I6 loa, I6 hia, I6 bla, I6 oga, I6 sga, .sl false [4] pta, I6 stb, I6 spb, I6 acb, I6 jeb, I6 lob, I6 hib, I6 blb, I6 ogb, I6 sgb, .sl false [4] ptb, I6 stc, I6 spc, I6 acc, I6 jec, I6 loc, I6 hic, I6 blc, I6 ogc, I6 sgc, .sl false [4] ptc], [.fn (54 : FuncId) [4] []], [.mu [4, 4, 4, 4, 4, 4, 4, 4, 4, 4] x.1, I6 x.2, I6 sa, I6 d0, I6 d1, I6 d2]])) /\
 (decide (mv < 0) = false -> (0 <= k /\ k < (sg.length : Int)) /\ (-9223372036854775808 <= x32 - x28 /\ x32 - x28 <= 9223372036854775807) /\ ∀ (x39 : Int), x39 = x32 - x28 -> (((54 : FuncId) = (54 : FuncId) /\ nl [4] [4] /\ nl [] []) /\ (m = 1 ∨ m = (-1 : Int)) /\ okB3 bla blb blc /\ (0 <= x39 /\ x39 <= 1152921504606846976) /\ (0 <= ln /\ ln <= 1152921504606846976) /\ pk.length <= 100000000000 /\ ∀ (j : Nat), j < pk.length -> 0 <= ec pk j 1 /\ ec pk j 1 <= ln) /\ (∃ (x : List (List Int) × Int), x = vis bla blb blc m x28 x39 (tn1 (el sg x34.toNat) (el sg k.toNat) m w0) (tn1 (ec sg x34.toNat 1) (ec sg k.toNat 1) m w1) (tn1 (ec sg x34.toNat 2) (ec sg k.toNat 2) m w2) pk ln w0 w1 w2) /\ ∀ (x : List (List Int) × Int), x = vis bla blb blc m x28 x39 (tn1 (el sg x34.toNat) (el sg k.toNat) m w0) (tn1 (ec sg x34.toNat 1) (ec sg k.toNat 1) m w1) (tn1 (ec sg x34.toNat 2) (ec sg k.toNat 2) m w2) pk ln w0 w1 w2 ->
 (-9223372036854775808 <= k + 1 /\ k + 1 <= 9223372036854775807) /\ ∀ (x42 : Int), x42 = k + 1 -> K .normal ([.ce (I6 lo), .ce (I6 hi), .ce (I6 mv), .ce (.fn (55 : FuncId) [0, 1, 2, 3] [4]), .ce (.ptr 1000005 0), .ce (.sl false [4] st), .ce (I6 n), .ce (I6 x42)], [[I6 s0, I6 s1, I6 s2, .sl false [4, 4, 4, 4, 4, 4, 4] sg, .sl false [4, 4, 4] mk], [I6 (tn1 (el sg x34.toNat) (el sg k.toNat) m w0), I6 (tn1 (ec sg x34.toNat 1) (ec sg k.toNat 1) m w1), I6 (tn1 (ec sg x34.toNat 2) (ec sg k.toNat 2) m w2)], [I6 m], [I6 sta, I6 spa, I6 aca, I6 jea, I6 loa, I6 hia, I6 bla, I6 oga, I6 sga, .sl false [4] pta, I6 stb, I6 spb, I6 acb, I6 jeb, I6 lob, I6 hib, I6 blb, I6 ogb, I6 sgb, .sl false [4] ptb, I6 stc, I6 spc, I6 acc, I6 jec, I6 loc, I6 hic, I6 blc, I6 ogc, I6 sgc, .sl false [4] ptc], [.fn (54 : FuncId) [4] []], [.mu [4, 4, 4, 4, 4, 4, 4, 4, 4, 4] x.1, I6 x.2, I6 sa, I6 d0, I6 d1, I6 d2]]))) /\
 (decide (k > 0) = false -> (decide (mv < 0) = true -> (0 <= k /\ k < (sg.length : Int)) /\ (-9223372036854775808 <= x32 - x28 /\ x32 - x28 <= 9223372036854775807) /\ ∀ (x43 : Int), x43 = x32 - x28 -> (((54 : FuncId) = (54 : FuncId) /\ nl [4] [4] /\ nl [] []) /\ (m = 1 ∨ m = (-1 : Int)) /\ okB3 bla blb blc /\ (0 <= x43 /\ x43 <= 1152921504606846976) /\ (0 <= ln /\ ln <= 1152921504606846976) /\ pk.length <= 100000000000 /\ ∀ (j : Nat), j < pk.length -> 0 <= ec pk j 1 /\ ec pk j 1 <= ln) /\ (∃ (x : List (List Int) × Int), x = vis bla blb blc m x32 x43 (tn1 s0 (el sg k.toNat) m w0) (tn1 s1 (ec sg k.toNat 1) m w1) (tn1 s2 (ec sg k.toNat 2) m w2) pk ln w0 w1 w2) /\ ∀ (x : List (List Int) × Int), x = vis bla blb blc m x32 x43 (tn1 s0 (el sg k.toNat) m w0) (tn1 s1 (ec sg k.toNat 1) m w1) (tn1 s2 (ec sg k.toNat 2) m w2) pk ln w0 w1 w2 -> (-9223372036854775808 <= k + 1 /\ k + 1 <= 9223372036854775807) /\ ∀ (x46 : Int), x46 = k + 1 ->
 K .normal ([.ce (I6 lo), .ce (I6 hi), .ce (I6 mv), .ce (.fn (55 : FuncId) [0, 1, 2, 3] [4]), .ce (.ptr 1000005 0), .ce (.sl false [4] st), .ce (I6 n), .ce (I6 x46)], [[I6 s0, I6 s1, I6 s2, .sl false [4, 4, 4, 4, 4, 4, 4] sg, .sl false [4, 4, 4] mk], [I6 (tn1 s0 (el sg k.toNat) m w0), I6 (tn1 s1 (ec sg k.toNat 1) m w1), I6 (tn1 s2 (ec sg k.toNat 2) m w2)], [I6 m], [I6 sta, I6 spa, I6 aca, I6 jea, I6 loa, I6 hia, I6 bla, I6 oga, I6 sga, .sl false [4] pta, I6 stb, I6 spb, I6 acb, I6 jeb, I6 lob, I6 hib, I6 blb, I6 ogb, I6 sgb, .sl false [4] ptb, I6 stc, I6 spc, I6 acc, I6 jec, I6 loc, I6 hic, I6 blc, I6 ogc, I6 sgc, .sl false [4] ptc], [.fn (54 : FuncId) [4] []], [.mu [4, 4, 4, 4, 4, 4, 4, 4, 4, 4] x.1, I6 x.2, I6 sa, I6 d0, I6 d1, I6 d2]])) /\
 (decide (mv < 0) = false -> (0 <= k /\ k < (sg.length : Int)) /\ (-9223372036854775808 <= x32 - x28 /\ x32 - x28 <= 9223372036854775807) /\ ∀ (x47 : Int), x47 = x32 - x28 -> (((54 : FuncId) = (54 : FuncId) /\ nl [4] [4] /\ nl [] []) /\ (m = 1 ∨ m = (-1 : Int)) /\ okB3 bla blb blc /\ (0 <= x47 /\ x47 <= 1152921504606846976) /\ (0 <= ln /\ ln <= 1152921504606846976) /\ pk.length <= 100000000000 /\ ∀ (j : Nat), j < pk.length -> 0 <= ec pk j 1 /\ ec pk j 1 <= ln) /\ (∃ (x : List (List Int) × Int), x = vis bla blb blc m x28 x47 (tn1 s0 (el sg k.toNat) m w0) (tn1 s1 (ec sg k.toNat 1) m w1) (tn1 s2 (ec sg k.toNat 2) m w2) pk ln w0 w1 w2) /\ ∀ (x : List (List Int) × Int), x = vis bla blb blc m x28 x47 (tn1 s0 (el sg k.toNat) m w0) (tn1 s1 (ec sg k.toNat 1) m w1) (tn1 s2 (ec sg k.toNat 2) m w2) pk ln w0 w1 w2 -> (-9223372036854775808 <= k + 1 /\ k + 1 <= 9223372036854775807) /\ ∀ (x50 : Int), x50 = k + 1 -> K .normal ([.ce (I6 lo), .ce (I6 hi), .ce (I6 mv), .ce (.fn (55 : FuncId) [0, 1, 2, 3] [4]), .ce (.ptr 1000005 0), .ce (.sl false [4] st), .ce (I6 n), .ce (I6 x50)], [[I6 s0, I6 s1, I6 s2, .sl false [4, 4, 4, 4, 4, 4, 4] sg, .sl false [4, 4, 4] mk], [I6 (tn1 s0 (el sg k.toNat) m w0), I6 (tn1 s1 (ec sg k.toNat 1) m w1), I6 (tn1 s2 (ec sg k.toNat 2) m w2)], [I6 m], [I6 sta, I6 spa, I6 aca, I6 jea, I6 loa, I6 hia, I6 bla, I6 oga, I6 sga, .sl false [4] pta, I6 stb, I6 spb, I6 acb, I6 jeb, I6 lob, I6 hib, I6 blb, I6 ogb, I6 sgb, .sl false [4] ptb, I6 stc, I6 spc, I6 acc, I6 jec, I6 loc, I6 hic, I6 blc, I6 ogc, I6 sgc, .sl false [4] ptc], [.fn (54 : FuncId) [4] []], [.mu [4, 4, 4, 4, 4, 4, 4, 4, 4, 4] x.1, I6 x.2, I6 sa, I6 d0, I6 d1, I6 d2]])))))) /\
 (decide (k < n) = false -> K (.exit 2) ([], [[I6 s0, I6 s1, I6 s2, .sl false [4, 4, 4, 4, 4, 4, 4] sg, .sl false [4, 4, 4] mk], [I6 w0, I6 w1, I6 w2], [I6 m], [I6 sta, I6 spa, I6 aca, I6 jea, I6 loa, I6 hia, I6 bla, I6 oga, I6 sga, .sl false [4] pta, I6 stb, I6 spb, I6 acb, I6 jeb, I6 lob, I6 hib, I6 blb, I6 ogb, I6 sgb, .sl false [4] ptb, I6 stc, I6 spc, I6 acc, I6 jec, I6 loc, I6 hic, I6 blc, I6 ogc, I6 sgc, .sl false [4] ptc], [.fn (54 : FuncId) [4] []], [.mu [4, 4, 4, 4, 4, 4, 4, 4, 4, 4] pk, I6 ln, I6 sa, I6 d0, I6 d1, I6 d2]]))) := by kernel_rfl
theorem vcEach (s0 s1 s2 lo hi mv w0 w1 w2 m ln sa d0 d1 d2 : Int) (sg mk pk : List (List Int)) (sta spa aca jea loa hia bla oga sga stb spb acb jeb lob hib blb ogb sgb stc spc acc jec loc hic blc ogc sgc : Int) (pta ptb ptc : List (List Int)) (Q : Res -> Prop) : (nfun true CEach Tryz.f58 (bodyOf Tryz.f58) [.agg [I6 s0, I6 s1, I6 s2, .sl false [4, 4, 4, 4, 4, 4, 4] sg, .sl false [4, 4, 4] mk], .ce (I6 lo), .ce (I6 hi), .ce (I6 mv), .ce (.fn 55 [0, 1, 2, 3] [4])] [[I6 w0, I6 w1, I6 w2], [I6 m], [I6 sta, I6 spa, I6 aca, I6 jea, I6 loa, I6 hia, I6 bla, I6 oga, I6 sga, .sl false [4] pta, I6 stb, I6 spb, I6 acb, I6 jeb, I6 lob, I6 hib, I6 blb, I6 ogb, I6 sgb, .sl false [4] ptb, I6 stc, I6 spc, I6 acc, I6 jec, I6 loc, I6 hic, I6 blc, I6 ogc, I6 sgc, .sl false [4] ptc], [.fn 54 [4] []], [.mu [4, 4, 4, 4, 4, 4, 4, 4, 4, 4] pk, I6 ln, I6 sa, I6 d0, I6 d1, I6 d2]] Q) =
 (((sg.length : Int) = (sg.length : Int) /\ (0 : Int) = 0 /\ (0 : Int) = 0 /\ (0 : Nat) = 0 /\ okLen sg /\ ((55 : FuncId) = (55 : FuncId) /\ nl [0, 1, 2, 3] [0, 1, 2, 3] /\ nl [4] [4]) /\ (54 : FuncId) = (54 : FuncId) /\ nl [4] [4] /\ nl [] []) /\ ∀ (x : List (List Int)), x = starts sg (sg.length) -> ((sg.length : Int) = (sg.length : Int) /\ (0 : Int) = 0 /\ x = starts sg (sg.length) /\ ((55 : FuncId) = (55 : FuncId) /\ nl [0, 1, 2, 3] [0, 1, 2, 3] /\ nl [4] [4]) /\ ((54 : FuncId) = (54 : FuncId) /\ nl [4] [4] /\ nl [] []) /\ mv = m /\ (m = 1 ∨ m = (-1 : Int)) /\ (0 <= lo /\ lo <= hi /\ hi <= plen sg) /\ okLen sg /\ okPts s0 s1 s2 sg /\ okB3 bla blb blc /\ pk.length = 0 /\ ln = 0) /\ ∀ (x : LegS), x = legK s0 s1 s2 sg bla blb blc lo hi m { pk := [], ln := (0 : Int), a0 := w0, a1 := w1, a2 := w2, bg := if m < 0 then plen sg else (0 : Int) } (sg.length) ->
 Q { val := .tup [], own := false, pars := [[I6 x.a0, I6 x.a1, I6 x.a2], [I6 m], [I6 sta, I6 spa, I6 aca, I6 jea, I6 loa, I6 hia, I6 bla, I6 oga, I6 sga, .sl false [4] pta, I6 stb, I6 spb, I6 acb, I6 jeb, I6 lob, I6 hib, I6 blb, I6 ogb, I6 sgb, .sl false [4] ptb, I6 stc, I6 spc, I6 acc, I6 jec, I6 loc, I6 hic, I6 blc, I6 ogc, I6 sgc, .sl false [4] ptc], [.fn (54 : FuncId) [4] []], [.mu [4, 4, 4, 4, 4, 4, 4, 4, 4, 4] x.pk, I6 x.ln, I6 sa, I6 d0, I6 d1, I6 d2]], news := [] }) := by kernel_rfl
end Go.Proofs.YtneingpnkdeooaaGreat
namespace U
theorem bgn_prev {s i : Int} {sg : List (List Int)} {c : Nat} (h : ¬ i <= 0) : bgn s sg c i = ec sg (i - 1).toNat c := by unfold bgn; rw [if_neg h]
theorem bgn_first {s i : Int} {sg : List (List Int)} {c : Nat} (h : i <= 0) : bgn s sg c i = s := by unfold bgn; rw [if_pos h]
theorem legS_n {m a b : Int} (h : m < 0) : legS m a b = b := if_pos h
theorem legS_p {m a b : Int} (h : ¬ m < 0) : legS m a b = a := if_neg h
theorem starts_len (sg : List (List Int)) : ∀ k, (starts sg k).length = k
 | 0 => rfl
 | k + 1 => by unfold starts; rw [List.length_append, starts_len sg k]; rfl
theorem el_starts {sg : List (List Int)} : ∀ {n i : Nat}, i < n -> el (starts sg n) i = plen (sg.take i)
 | n + 1, i, h => by
  have e : el (starts sg (n + 1)) i = ec (starts sg n ++ [[plen (sg.take n)]]) i 0 := rfl
  rw [e, ec_app, starts_len]
  split
  . rename_i hi; exact el_starts hi
  . have : i = n := by omega
    subst this
    rw [Nat.sub_self]
    rfl
theorem leg_vis {s0 s1 s2 : Int} {sg : List (List Int)} {b0 b1 b2 lo hh m low high i n0 n1 n2 : Int} {x : LegS} {k : Nat} (hm : m = 1 ∨ m = -1) (hlow : legLow x.bg (legE sg m x.bg i) lo hh = low) (hhigh : legHigh x.bg (legE sg m x.bg i) lo hh = high)
 (hlt : low < high) (hi : i = legI sg.length m k) (y : List (List Int) × Int) (hy : y = vis b0 b1 b2 m (legS m low high) (high - low) n0 n1 n2 x.pk x.ln x.a0 x.a1 x.a2)
 (h0 : n0 = tn1 (bgn s0 sg 0 i) (ec sg i.toNat 0) m x.a0) (h1 : n1 = tn1 (bgn s1 sg 1 i) (ec sg i.toNat 1) m x.a1) (h2 : n2 = tn1 (bgn s2 sg 2 i) (ec sg i.toNat 2) m x.a2) :
 legStep s0 s1 s2 sg b0 b1 b2 lo hh m x k = ⟨y.1, y.2, n0, n1, n2, legE sg m x.bg i⟩ := by
 unfold legStep legSeg
 rw [<- hi, hlow, hhigh, <- tn1_fc1 hm, <- tn1_fc1 hm, <- tn1_fc1 hm, <- h0, <- h1, <- h2]
 unfold legPut
 rw [if_pos hlt, hy]
 rfl
theorem leg_skip {s0 s1 s2 : Int} {sg : List (List Int)} {b0 b1 b2 lo hh m low high i : Int} {x : LegS} {k : Nat} (hlow : legLow x.bg (legE sg m x.bg i) lo hh = low) (hhigh : legHigh x.bg (legE sg m x.bg i) lo hh = high)
 (hlt : ¬ low < high) (hi : i = legI sg.length m k) : legStep s0 s1 s2 sg b0 b1 b2 lo hh m x k = ⟨x.pk, x.ln, x.a0, x.a1, x.a2, legE sg m x.bg i⟩ := by
 unfold legStep legSeg
 rw [<- hi, hlow, hhigh]
 unfold legPut
 rw [if_neg hlt]
theorem take_ok {sg : List (List Int)} (hl : okLen sg) (q : Nat) : 0 <= plen (sg.take q) /\ plen (sg.take q) <= 4503599627370496 := by
 have hl1 := hl.1
 have := plen_le (l := sg.take q) ⟨by rw [List.length_take]; omega, fun j hj => by
  rw [List.length_take] at hj
  have := hl.2 j (by omega)
  unfold ec at this ⊢
  simp only [List.getD_eq_getElem?_getD, List.getElem?_take] at this ⊢
  rw [if_pos (by omega)]
  exact this⟩
 exact this
theorem each_lh {sg : List (List Int)} {m bg i lo hh : Int} {k : Nat} (hl : okLen sg) (hm : m = 1 ∨ m = -1) (hk : k < sg.length) (h1 : m = 1 -> bg = plen (sg.take k)) (h2 : m = -1 -> bg = plen (sg.take (sg.length - k))) (hi : i = legI sg.length m k) (hlh : lo <= hh) :
 ((0 <= plen (sg.take i.toNat) /\ plen (sg.take i.toNat) <= 4503599627370496) /\ 0 <= ec sg i.toNat 3 /\ ec sg i.toNat 3 <= 4294967296) /\ legLow bg (legE sg m bg i) lo hh = max (plen (sg.take i.toNat)) lo /\ legHigh bg (legE sg m bg i) lo hh = min (plen (sg.take i.toNat) + ec sg i.toNat 3) hh := by
 have hb := legI_bd (m := m) hk
 rw [<- hi] at hb
 have hlen := hl.2 i.toNat (by omega)
 refine ⟨⟨take_ok hl _, by omega⟩, ?_⟩
 unfold legLow legHigh legE
 rcases hm with rfl | rfl
 . have e : i = (k : Int) := by rw [hi]; rfl
   have e2 : i.toNat = k := by omega
   rw [h1 rfl, e2]
   rw [e2] at hlen
   omega
 . have e : i = (sg.length : Int) - 1 - (k : Int) := by rw [hi]; rfl
   have e2 : i.toNat = sg.length - (k + 1) := by omega
   rw [h2 rfl, e2, show sg.length - k = sg.length - (k + 1) + 1 by omega, plen_next sg (by omega)]
   rw [e2] at hlen
   omega
end U
namespace Go.Proofs.YtneingpnkdeooaaGreat
section
open Go Go.HL U
attribute [local irreducible] hfun bodyT fragT
theorem loopE1 : ∀ v Q, (LE1 v).wp Q -> hloop CEach anE1 (nthLoop Tryz.f58 0) v Q := by
 intro v Q h
 unfold LE1 at h
 split at h
 case h_2 => exact h.elim
 rename_i lo hh mv g rs ex t st l n i s0 s1 s2 sg mk w0 w1 w2 m ax g2 r2 e2 pk ln sa d0 d1 d2
 split at h
 case h_2 => exact h.elim
 rename_i sta spa aca jea loa hia bla oga sga pta stb spb acb jeb lob hib blb ogb sgb ptb stc spc acc jec loc hic blc ogc sgc ptc
 obtain ⟨⟨hn, hi0, ht, hst, hl, ⟨hg, hrs, hex⟩, hg2, hr2, he2⟩, hq⟩ := h
 unfold nl at hrs hex hr2 he2
 subst hn hi0 ht hg hrs hex hg2 hr2 he2
 obtain rfl : st = [] := List.eq_nil_of_length_eq_zero hst
 refine hloop_rec (σ := Nat)
  (fun s => ([.ce (.int .i64 lo), .ce (.int .i64 hh), .ce (.int .i64 mv), .ce (.fn 55 [0, 1, 2, 3] [4]), .ce (.ptr 1000005 0), .ce (.int .i64 (plen (l.take s))), .ce (.sl false [4] (starts l s)), .ce (.lit true), .ce (.sl false [4, 4, 4, 4, 4, 4, 4] l), .ce (.int .i64 (l.length : Int)), .ce (.int .i64 (s : Int))],
   [[.int .i64 s0, .int .i64 s1, .int .i64 s2, .sl false [4, 4, 4, 4, 4, 4, 4] sg, .sl false [4, 4, 4] mk], [.int .i64 w0, .int .i64 w1, .int .i64 w2], [.int .i64 m], [.int .i64 sta, .int .i64 spa, .int .i64 aca, .int .i64 jea, .int .i64 loa, .int .i64 hia, .int .i64 bla, .int .i64 oga, .int .i64 sga, .sl false [4] pta, .int .i64 stb, .int .i64 spb, .int .i64 acb, .int .i64 jeb, .int .i64 lob, .int .i64 hib, .int .i64 blb, .int .i64 ogb, .int .i64 sgb, .sl false [4] ptb, .int .i64 stc, .int .i64 spc, .int .i64 acc, .int .i64 jec, .int .i64 loc, .int .i64 hic, .int .i64 blc, .int .i64 ogc, .int .i64 sgc, .sl false [4] ptc], [.fn 54 [4] []], [.mu [4, 4, 4, 4, 4, 4, 4, 4, 4, 4] pk, .int .i64 ln, .int .i64 sa, .int .i64 d0, .int .i64 d1, .int .i64 d2]]))
  (fun s => l.length - s)
  (fun s => s <= l.length)
  ?_ 0 (Nat.zero_le _)
 intro k hk K hn hx _
 have hl1 := hl.1
 have hpl := take_ok hl k
 have hsl := starts_len l k
 refine byVB (vbE1 s0 s1 s2 lo hh mv (plen (l.take k)) l.length k w0 w1 w2 m ln sa d0 d1 d2 sg mk l (starts l k) pk sta spa aca jea loa hia bla oga sga stb spb acb jeb lob hib blb ogb sgb stc spc acc jec loc hic blc ogc sgc pta ptb ptc K) ⟨fun g => ?_, fun g => ?_⟩
 . have g := of_decide_eq_true g
   have hkl : k < l.length := by omega
   have hlen := hl.2 k hkl
   have hkn : ((k : Int)).toNat = k := rfl
   rw [hkn]
   refine ⟨by omega, ⟨by omega, by unfold maxLen; omega⟩, by omega, fun x1 e1 => ⟨by omega, fun x2 e2 => ?_⟩⟩
   have := hn (k + 1) hkl (by omega)
   rw [plen_next l hkl, <- e1] at this
   rw [e2]
   exact this
 . have g := of_decide_eq_false g
   have hkl : k = l.length := by omega
   subst hkl
   exact hx 0 _ (hq _ rfl)
set_option maxHeartbeats 4000000 in
theorem loopE2 : ∀ v Q, (LE2 v).wp Q -> hloop CEach anE2 (nthLoop Tryz.f58 1) v Q := by
 intro v Q h
 unfold LE2 at h
 split at h
 case h_2 => exact h.elim
 rename_i lo hh mv g rs ex st n k0 s0 s1 s2 sg mk w0 w1 w2 m ax g2 r2 e2 pk ln sa d0 d1 d2
 split at h
 case h_2 => exact h.elim
 rename_i sta spa aca jea loa hia bla oga sga pta stb spb acb jeb lob hib blb ogb sgb ptb stc spc acc jec loc hic blc ogc sgc ptc
 obtain ⟨⟨hn, hk0, hst, ⟨hg, hrs, hex⟩, ⟨hg2, hr2, he2⟩, hmv, hm, hlh, hl, hp, hb, hpk, hln⟩, hq⟩ := h
 unfold nl at hrs hex hr2 he2
 subst hn hk0 hst hg hrs hex hg2 hr2 he2 hmv hln
 obtain rfl : pk = [] := List.eq_nil_of_length_eq_zero hpk
 have j0 : legJ sg mv 0 ⟨[], 0, w0, w1, w2, if mv < 0 then plen sg else 0⟩ := by
  refine ⟨⟨Int.le_refl _, by dsimp only; omega⟩, by simp, fun j hj => by simp at hj, fun e => ?_, fun e => ?_⟩
  . subst e; rfl
  . subst e; simp
 have hJ := legJ_all (s0 := s0) (s1 := s1) (s2 := s2) (f := lo) (t := hh) hl hb hm j0
 refine hloop_rec (σ := LegS × Nat)
  (fun s => ([.ce (.int .i64 lo), .ce (.int .i64 hh), .ce (.int .i64 mv), .ce (.fn 55 [0, 1, 2, 3] [4]), .ce (.ptr 1000005 0), .ce (.sl false [4] (starts sg sg.length)), .ce (.int .i64 (sg.length : Int)), .ce (.int .i64 (s.2 : Int))],
   [[.int .i64 s0, .int .i64 s1, .int .i64 s2, .sl false [4, 4, 4, 4, 4, 4, 4] sg, .sl false [4, 4, 4] mk], [.int .i64 s.1.a0, .int .i64 s.1.a1, .int .i64 s.1.a2], [.int .i64 mv], [.int .i64 sta, .int .i64 spa, .int .i64 aca, .int .i64 jea, .int .i64 loa, .int .i64 hia, .int .i64 bla, .int .i64 oga, .int .i64 sga, .sl false [4] pta, .int .i64 stb, .int .i64 spb, .int .i64 acb, .int .i64 jeb, .int .i64 lob, .int .i64 hib, .int .i64 blb, .int .i64 ogb, .int .i64 sgb, .sl false [4] ptb, .int .i64 stc, .int .i64 spc, .int .i64 acc, .int .i64 jec, .int .i64 loc, .int .i64 hic, .int .i64 blc, .int .i64 ogc, .int .i64 sgc, .sl false [4] ptc], [.fn 54 [4] []], [.mu [4, 4, 4, 4, 4, 4, 4, 4, 4, 4] s.1.pk, .int .i64 s.1.ln, .int .i64 sa, .int .i64 d0, .int .i64 d1, .int .i64 d2]]))
  (fun s => sg.length - s.2)
  (fun s => s.2 <= sg.length /\ s.1 = legK s0 s1 s2 sg bla blb blc lo hh mv ⟨[], 0, w0, w1, w2, if mv < 0 then plen sg else 0⟩ s.2)
  ?_ (⟨[], 0, w0, w1, w2, if mv < 0 then plen sg else 0⟩, 0) ⟨Nat.zero_le _, rfl⟩
 rintro ⟨x, k⟩ ⟨hk, he⟩ K hn hx _
 dsimp only at hk he hn ⊢
 have J := hJ k hk
 rw [<- he] at J
 have hl1 := hl.1
 have hsl := starts_len sg sg.length
 refine byVB (vbE2 s0 s1 s2 lo hh mv sg.length k x.a0 x.a1 x.a2 mv x.ln sa d0 d1 d2 sg mk (starts sg sg.length) x.pk sta spa aca jea loa hia bla oga sga stb spb acb jeb lob hib blb ogb sgb stc spc acc jec loc hic blc ogc sgc pta ptb ptc K) ⟨fun gk => ?_, fun g => ?_⟩
 . have gk := of_decide_eq_true gk
   have hk : k < sg.length := by omega
   obtain ⟨J1, J2, J3, J4, J5⟩ := J
   have fin : ∀ y : LegS, y = legStep s0 s1 s2 sg bla blb blc lo hh mv x k -> ∀ z : Int, z = (k : Int) + 1 ->
    K .normal ([.ce (.int .i64 lo), .ce (.int .i64 hh), .ce (.int .i64 mv), .ce (.fn 55 [0, 1, 2, 3] [4]), .ce (.ptr 1000005 0), .ce (.sl false [4] (starts sg sg.length)), .ce (.int .i64 (sg.length : Int)), .ce (.int .i64 z)],
    [[.int .i64 s0, .int .i64 s1, .int .i64 s2, .sl false [4, 4, 4, 4, 4, 4, 4] sg, .sl false [4, 4, 4] mk], [.int .i64 y.a0, .int .i64 y.a1, .int .i64 y.a2], [.int .i64 mv], [.int .i64 sta, .int .i64 spa, .int .i64 aca, .int .i64 jea, .int .i64 loa, .int .i64 hia, .int .i64 bla, .int .i64 oga, .int .i64 sga, .sl false [4] pta, .int .i64 stb, .int .i64 spb, .int .i64 acb, .int .i64 jeb, .int .i64 lob, .int .i64 hib, .int .i64 blb, .int .i64 ogb, .int .i64 sgb, .sl false [4] ptb, .int .i64 stc, .int .i64 spc, .int .i64 acc, .int .i64 jec, .int .i64 loc, .int .i64 hic, .int .i64 blc, .int .i64 ogc, .int .i64 sgc, .sl false [4] ptc], [.fn 54 [4] []], [.mu [4, 4, 4, 4, 4, 4, 4, 4, 4, 4] y.pk, .int .i64 y.ln, .int .i64 sa, .int .i64 d0, .int .i64 d1, .int .i64 d2]]) := by
    intro y ey z ez
    have := hn (y, k + 1) ⟨hk, by rw [ey, he]; rfl⟩ (by dsimp only; omega)
    rw [ez]
    exact this
   have hplx := take_ok hl
   obtain ⟨hlo0, hlh, hhh⟩ := hlh
   have hkk : (k : Int) <= 1048576 := by omega
   have hlnB : 0 <= x.ln /\ x.ln <= 1152921504606846976 := by omega
   clear hn hx hJ he
   refine ⟨fun gneg => ⟨by omega, fun x1 e1 => ⟨by omega, fun x2 e2 => ?_⟩⟩, fun gneg => ?_⟩
   . have gneg := of_decide_eq_true gneg
     have hI : x2 = legI sg.length mv k := by unfold legI; rw [if_pos gneg, e2, e1]
     have hi : 0 <= x2 /\ x2 < (sg.length : Int) := by omega
     have hst : 0 <= x2 /\ x2 < ((starts sg sg.length).length : Int) := by omega
     refine ⟨hst, ?_⟩
     rintro x3 e3 x4 e4
     refine ⟨hst, ?_⟩
     rintro x5 e5
     refine ⟨hi, ?_⟩
     rintro x6 e6
     have hsx : el (starts sg sg.length) (x2).toNat = plen (sg.take (x2).toNat) := el_starts (by omega)
     rw [hsx] at e3 e5
     obtain ⟨hpos, hlow0, hhigh0⟩ := each_lh (lo := lo) (hh := hh) hl hm hk J4 J5 hI hlh
     refine ⟨by omega, ?_⟩
     rintro x7 e7 x8 e8
     have hlow : legLow x.bg (legE sg mv x.bg (x2)) lo hh = x4 := by rw [hlow0, e4, e3]
     have hhigh : legHigh x.bg (legE sg mv x.bg (x2)) lo hh = x8 := by rw [hhigh0, e8, e7, e5, e6]
     refine ⟨fun g => ⟨by omega, fun z ez => ?_⟩, fun g => ?_⟩
     . exact fin _ (leg_skip hlow hhigh (by have := of_decide_eq_true g; omega) hI).symm z ez
     . have g : x4 < x8 := by have := of_decide_eq_false g; omega
       have hx48 : 0 <= x8 - x4 /\ x8 - x4 <= 4503599627370496 := by omega
       refine ⟨fun gi => ⟨by omega, fun j ej => ⟨by have := of_decide_eq_true gi; omega, fun gm => ?_, fun gm => ?_⟩⟩, fun gi => ⟨fun gm => ?_, fun gm => ?_⟩⟩
       . have gi := of_decide_eq_true gi
         refine ⟨hi, by omega, fun d ed => ⟨⟨⟨rfl, rfl, rfl⟩, hm, hb, by omega, by omega, by omega, J3⟩, ⟨_, rfl⟩, fun y ey => ⟨by omega, fun z ez => ?_⟩⟩⟩
         exact fin _ (leg_vis (n0 := tn1 (el sg j.toNat) (el sg (x2).toNat) mv x.a0) (n1 := tn1 (ec sg j.toNat 1) (ec sg (x2).toNat 1) mv x.a1) (n2 := tn1 (ec sg j.toNat 2) (ec sg (x2).toNat 2) mv x.a2) hm hlow hhigh g hI y (by rw [ey, ed, legS_n gneg]) (by rw [bgn_prev (by omega)]; rw [ej]; rfl) (by rw [bgn_prev (by omega)]; rw [ej]) (by rw [bgn_prev (by omega)]; rw [ej])).symm z ez
       . exact absurd gneg (of_decide_eq_false gm)
       . have gi := of_decide_eq_false gi
         refine ⟨hi, by omega, fun d ed => ⟨⟨⟨rfl, rfl, rfl⟩, hm, hb, by omega, by omega, by omega, J3⟩, ⟨_, rfl⟩, fun y ey => ⟨by omega, fun z ez => ?_⟩⟩⟩
         exact fin _ (leg_vis (n0 := tn1 (s0) (el sg (x2).toNat) mv x.a0) (n1 := tn1 (s1) (ec sg (x2).toNat 1) mv x.a1) (n2 := tn1 (s2) (ec sg (x2).toNat 2) mv x.a2) hm hlow hhigh g hI y (by rw [ey, ed, legS_n gneg]) (by rw [bgn_first (by omega)]; rfl) (by rw [bgn_first (by omega)]) (by rw [bgn_first (by omega)])).symm z ez
       . exact absurd gneg (of_decide_eq_false gm)
   . have gneg := of_decide_eq_false gneg
     have hI : (k : Int) = legI sg.length mv k := by unfold legI; rw [if_neg gneg]
     have hi : 0 <= (k : Int) /\ (k : Int) < (sg.length : Int) := by omega
     have hst : 0 <= (k : Int) /\ (k : Int) < ((starts sg sg.length).length : Int) := by omega
     refine ⟨hst, ?_⟩
     rintro x3 e3 x4 e4
     refine ⟨hst, ?_⟩
     rintro x5 e5
     refine ⟨hi, ?_⟩
     rintro x6 e6
     have hsx : el (starts sg sg.length) ((k : Int)).toNat = plen (sg.take ((k : Int)).toNat) := el_starts (by omega)
     rw [hsx] at e3 e5
     obtain ⟨hpos, hlow0, hhigh0⟩ := each_lh (lo := lo) (hh := hh) hl hm hk J4 J5 hI hlh
     refine ⟨by omega, ?_⟩
     rintro x7 e7 x8 e8
     have hlow : legLow x.bg (legE sg mv x.bg ((k : Int))) lo hh = x4 := by rw [hlow0, e4, e3]
     have hhigh : legHigh x.bg (legE sg mv x.bg ((k : Int))) lo hh = x8 := by rw [hhigh0, e8, e7, e5, e6]
     refine ⟨fun g => ⟨by omega, fun z ez => ?_⟩, fun g => ?_⟩
     . exact fin _ (leg_skip hlow hhigh (by have := of_decide_eq_true g; omega) hI).symm z ez
     . have g : x4 < x8 := by have := of_decide_eq_false g; omega
       have hx48 : 0 <= x8 - x4 /\ x8 - x4 <= 4503599627370496 := by omega
       refine ⟨fun gi => ⟨by omega, fun j ej => ⟨by have := of_decide_eq_true gi; omega, fun gm => ?_, fun gm => ?_⟩⟩, fun gi => ⟨fun gm => ?_, fun gm => ?_⟩⟩
       . exact absurd (of_decide_eq_true gm) (by omega)
       . have gi := of_decide_eq_true gi
         refine ⟨hi, by omega, fun d ed => ⟨⟨⟨rfl, rfl, rfl⟩, hm, hb, by omega, by omega, by omega, J3⟩, ⟨_, rfl⟩, fun y ey => ⟨by omega, fun z ez => ?_⟩⟩⟩
         exact fin _ (leg_vis (n0 := tn1 (el sg j.toNat) (el sg ((k : Int)).toNat) mv x.a0) (n1 := tn1 (ec sg j.toNat 1) (ec sg ((k : Int)).toNat 1) mv x.a1) (n2 := tn1 (ec sg j.toNat 2) (ec sg ((k : Int)).toNat 2) mv x.a2) hm hlow hhigh g hI y (by rw [ey, ed, legS_p gneg]) (by rw [bgn_prev (by omega)]; rw [ej]; rfl) (by rw [bgn_prev (by omega)]; rw [ej]) (by rw [bgn_prev (by omega)]; rw [ej])).symm z ez
       . exact absurd (of_decide_eq_true gm) (by omega)
       . have gi := of_decide_eq_false gi
         refine ⟨hi, by omega, fun d ed => ⟨⟨⟨rfl, rfl, rfl⟩, hm, hb, by omega, by omega, by omega, J3⟩, ⟨_, rfl⟩, fun y ey => ⟨by omega, fun z ez => ?_⟩⟩⟩
         exact fin _ (leg_vis (n0 := tn1 (s0) (el sg ((k : Int)).toNat) mv x.a0) (n1 := tn1 (s1) (ec sg ((k : Int)).toNat 1) mv x.a1) (n2 := tn1 (s2) (ec sg ((k : Int)).toNat 2) mv x.a2) hm hlow hhigh g hI y (by rw [ey, ed, legS_p gneg]) (by rw [bgn_first (by omega)]; rfl) (by rw [bgn_first (by omega)]) (by rw [bgn_first (by omega)])).symm z ez
 . have g := of_decide_eq_false g
   have hkl : k = sg.length := by omega
   subst hkl
   exact hx 2 _ (hq x he)
theorem sEach : Sound Tryz.prog 58 SEach := by
 refine sound_of (C := CEach) tabEach Tryz.func58 (by kernel_rfl) (by decide +kernel) (by kernel_rfl) rfl ⟨sLeg2, trivial⟩ (loops2 (by kernel_rfl) (loopOK_of (an := anE1) (S := LE1) (by kernel_rfl) loopE1) (loopOK_of (an := anE2) (S := LE2) (by kernel_rfl) loopE2)) ?_
 intro hA pA R h
 unfold SEach at h
 split at h
 case h_2 => exfalso; exact h
 rename_i s0 s1 s2 sg mk lo hh mv g rs ex w0 w1 w2 m ax g2 r2 e2 pk ln sa d0 d1 d2
 split at h
 case h_2 => exact h.elim
 rename_i sta spa aca jea loa hia bla oga sga pta stb spb acb jeb lob hib blb ogb sgb ptb stc spc acc jec loc hic blc ogc sgc ptc
 obtain ⟨⟨⟨hg, hrs, hex⟩, ⟨hg2, hr2, he2⟩, hmv, hm, hlh, hl, hp, hb, hpk, hln⟩, _, hq⟩ := h
 unfold nl at hrs hex hr2 he2
 subst hg hrs hex hg2 hr2 he2 hmv
 exact byVC (vcEach s0 s1 s2 lo hh mv w0 w1 w2 mv ln sa d0 d1 d2 sg mk pk sta spa aca jea loa hia bla oga sga stb spb acb jeb lob hib blb ogb sgb stc spc acc jec loc hic blc ogc sgc pta ptb ptc R) ⟨⟨rfl, rfl, rfl, rfl, hl, ⟨rfl, rfl, rfl⟩, rfl, rfl, rfl⟩, fun st est => ⟨⟨rfl, rfl, est, ⟨rfl, rfl, rfl⟩, ⟨rfl, rfl, rfl⟩, rfl, hm, hlh, hl, hp, hb, hpk, hln⟩, fun x ex => hq x ex⟩⟩
end
open Go Go.HL U
def tabLegP : List (FuncId × HL.Spec) := [(53, SPLen), (42, SClamp), (58, SEach)]
noncomputable def CLegP : Ctx := ⟨Tryz.prog, gam tabLegP, Tryz.f32.ntmps, [], [44, spl 10 1000012 0 9]⟩
theorem vcLegP (s0 s1 s2 f t d0 d1 d2 : Int) (sg mk : List (List Int)) (sta spa aca jea loa hia bla oga sga stb spb acb jeb lob hib blb ogb sgb stc spc acc jec loc hic blc ogc sgc : Int) (pta ptb ptc : List (List Int)) (Q : Res -> Prop) : (nfun true CLegP Tryz.f32 (bodyOf Tryz.f32) [.agg [I6 s0, I6 s1, I6 s2, .sl false [4, 4, 4, 4, 4, 4, 4] sg, .sl false [4, 4, 4] mk], .agg [I6 sta, I6 spa, I6 aca, I6 jea, I6 loa, I6 hia, I6 bla, I6 oga, I6 sga, .sl false [4] pta, I6 stb, I6 spb, I6 acb, I6 jeb, I6 lob, I6 hib, I6 blb, I6 ogb, I6 sgb, .sl false [4] ptb, I6 stc, I6 spc, I6 acc, I6 jec, I6 loc, I6 hic, I6 blc, I6 ogc, I6 sgc, .sl false [4] ptc], .agg [I6 d0, I6 d1, I6 d2], .ce (I6 f), .ce (I6 t)] [] Q) =
 (okLen sg /\ ∀ (x1 : Int), x1 = plen sg -> 0 <= x1 /\ ∀ (x2 : Int), x2 = clamp x1 f -> 0 <= x1 /\ ∀ (x3 : Int), x3 = clamp x1 t -> (decide (x2 > x3) = true -> ∀ (x4 : Int), x4 = min x2 x3 -> ∀ (x5 : Int), x5 = max x2 x3 -> (((55 : Nat) = (55 : FuncId) /\ nl [0, 1, 2, 3] [0, 1, 2, 3] /\ nl [4] [4]) /\ ((54 : Nat) = (54 : FuncId) /\ nl [4] [4] /\ nl [] []) /\ (-1 : Int) = (-1 : Int) /\ ((-1 : Int) = 1 ∨ (-1 : Int) = (-1 : Int)) /\ (0 <= x4 /\ x4 <= x5 /\ x5 <= plen sg) /\ okLen sg /\ okPts s0 s1 s2 sg /\ okB3 bla blb blc /\ (0 : Nat) = 0 /\ (0 : Int) = 0) /\ (∃ (x : LegS), x = legK s0 s1 s2 sg bla blb blc x4 x5 (-1 : Int) { pk := [], ln := (0 : Int), a0 := d0, a1 := d1, a2 := d2, bg := if (-1 : Int) < 0 then plen sg else (0 : Int) } (sg.length)) /\ ∀ (x : LegS), x = legK s0 s1 s2 sg bla blb blc x4 x5 (-1 : Int) { pk := [], ln := (0 : Int), a0 := d0, a1 := d1, a2 := d2, bg := if (-1 : Int) < 0 then plen sg else (0 : Int) } (sg.length) ->
 Q ⟨.agg [.sl false [4, 4, 4, 4, 4, 4, 4, 4, 4, 4] x.pk, I6 x.ln, I6 x2, I6 d0, I6 d1, I6 d2], false, [], []⟩) /\ (decide (x2 > x3) = false -> ∀ (x7 : Int), x7 = min x2 x3 -> ∀ (x8 : Int), x8 = max x2 x3 -> (((55 : Nat) = (55 : FuncId) /\ nl [0, 1, 2, 3] [0, 1, 2, 3] /\ nl [4] [4]) /\ ((54 : Nat) = (54 : FuncId) /\ nl [4] [4] /\ nl [] []) /\ (1 : Int) = 1 /\ ((1 : Int) = 1 ∨ (1 : Int) = (-1 : Int)) /\ (0 <= x7 /\ x7 <= x8 /\ x8 <= plen sg) /\ okLen sg /\ okPts s0 s1 s2 sg /\ okB3 bla blb blc /\ (0 : Nat) = 0 /\ (0 : Int) = 0) /\ (∃ (x : LegS), x = legK s0 s1 s2 sg bla blb blc x7 x8 (1 : Int) { pk := [], ln := (0 : Int), a0 := d0, a1 := d1, a2 := d2, bg := if (1 : Int) < 0 then plen sg else (0 : Int) } (sg.length)) /\ ∀ (x : LegS), x = legK s0 s1 s2 sg bla blb blc x7 x8 (1 : Int) { pk := [], ln := (0 : Int), a0 := d0, a1 := d1, a2 := d2, bg := if (1 : Int) < 0 then plen sg else (0 : Int) } (sg.length) ->
 Q ⟨.agg [.sl false [4, 4, 4, 4, 4, 4, 4, 4, 4, 4] x.pk, I6 x.ln, I6 x2, I6 d0, I6 d1, I6 d2], false, [], []⟩)) := by kernel_rfl
end Go.Proofs.YtneingpnkdeooaaGreat
namespace U
theorem legK_mm {s0 s1 s2 : Int} {sg : List (List Int)} {b0 b1 b2 f t m : Int} {x : LegS} : ∀ k, legK s0 s1 s2 sg b0 b1 b2 (min f t) (max f t) m x k = legK s0 s1 s2 sg b0 b1 b2 f t m x k
 | 0 => rfl
 | k + 1 => by
  have e1 : min (min f t) (max f t) = min f t := by omega
  have e2 : max (min f t) (max f t) = max f t := by omega
  unfold legK
  rw [legK_mm k]
  unfold legStep legSeg legLow legHigh
  rw [e1, e2]
end U
namespace Go.Proofs.YtneingpnkdeooaaGreat
open Go Go.HL U
attribute [local irreducible] hfun bodyT fragT
theorem sLegP : Sound Tryz.prog 32 SLeg := by
 refine sound_of (C := CLegP) tabLegP Tryz.func32 (by kernel_rfl) (by decide +kernel) (by kernel_rfl) rfl ⟨sPLen2, sClamp, sEach, trivial⟩ (loops0 (by kernel_rfl)) ?_
 intro hA pA R h
 unfold SLeg at h
 split at h
 case h_2 => exfalso; exact h
 rename_i s0 s1 s2 sg mk ax d0 d1 d2 f t
 split at h
 case h_2 => exact h.elim
 rename_i sta spa aca jea loa hia bla oga sga pta stb spb acb jeb lob hib blb ogb sgb ptb stc spc acc jec loc hic blc ogc sgc ptc
 obtain ⟨⟨hl, hp, hb⟩, _, hq⟩ := h
 have hpl := plen_le hl
 refine byVC (vcLegP s0 s1 s2 f t d0 d1 d2 sg mk sta spa aca jea loa hia bla oga sga stb spb acb jeb lob hib blb ogb sgb stc spc acc jec loc hic blc ogc sgc pta ptb ptc R) ⟨hl, ?_⟩
 rintro x1 e1
 refine ⟨by omega, ?_⟩
 rintro x2 e2
 refine ⟨by omega, ?_⟩
 rintro x3 e3
 have c2 : clamp (plen sg) f = x2 := by rw [e2, e1]
 have c3 : clamp (plen sg) t = x3 := by rw [e3, e1]
 have b2 : 0 <= x2 /\ x2 <= plen sg := by unfold clamp at c2; omega
 have b3 : 0 <= x3 /\ x3 <= plen sg := by unfold clamp at c3; omega
 rw [c2, c3] at hq
 refine ⟨fun g => fun x5 e5 x6 e6 => ⟨⟨⟨rfl, rfl, rfl⟩, ⟨rfl, rfl, rfl⟩, rfl, .inr rfl, by omega, hl, hp, hb, rfl, rfl⟩, ⟨_, rfl⟩, fun x ex => hq x ?_⟩,
  fun g => fun x7 e7 x8 e8 => ⟨⟨⟨rfl, rfl, rfl⟩, ⟨rfl, rfl, rfl⟩, rfl, .inl rfl, by omega, hl, hp, hb, rfl, rfl⟩, ⟨_, rfl⟩, fun x ex => hq x ?_⟩⟩
 . have g := of_decide_eq_true g
   rw [ex, e5, e6, legK_mm]
   unfold leg legM
   rw [if_pos g]
 . have g := of_decide_eq_false g
   rw [ex, e7, e8, legK_mm]
   unfold leg legM
   rw [if_neg g]
end Go.Proofs.YtneingpnkdeooaaGreat
namespace U
open Go
structure TurnS where
 pk : List (List Int)
 ln : Int
 sa : Int
 d0 : Int
 d1 : Int
 d2 : Int
 ok : Bool
def okW (b0 b1 b2 : Int) (pk : List (List Int)) : Prop :=
 ∀ j, j < pk.length -> ((pm (ec pk j 4) /\ pm (ec pk j 5) /\ pm (ec pk j 6)) /\ (pm (ec pk j 7) /\ pm (ec pk j 8) /\ pm (ec pk j 9))) /\
  (ec pk j 3 = 0 -> (ec pk j 4 ≠ ec pk j 7 -> b0 <= ec pk j 1) /\ (ec pk j 5 ≠ ec pk j 8 -> b1 <= ec pk j 1) /\ (ec pk j 6 ≠ ec pk j 9 -> b2 <= ec pk j 1))
def RunS.next (x : RunS) (u to : Int) : RunS :=
  { x with
    d0 := tface x.pk x.d0 0 u, d1 := tface x.pk x.d1 1 u, d2 := tface x.pk x.d2 2 u, f := tplace x.pk x.f u, t := to,
    pk := (leg x.s0 x.s1 x.s2 x.sg x.a.bl x.b.bl x.c.bl (tface x.pk x.d0 0 u) (tface x.pk x.d1 1 u) (tface x.pk x.d2 2 u) (tplace x.pk x.f u) to).pk,
    ln := (leg x.s0 x.s1 x.s2 x.sg x.a.bl x.b.bl x.c.bl (tface x.pk x.d0 0 u) (tface x.pk x.d1 1 u) (tface x.pk x.d2 2 u) (tplace x.pk x.f u) to).ln }
end U
namespace Go.Proofs.YtneingpnkdeooaaGreat
open Go Go.HL U
theorem tadd_okW {b0 b1 b2 : Int} {pk : List (List Int)} {ln q0 q1 q2 q3 q4 q5 q6 q7 q8 q9 : Int} (h : okW b0 b1 b2 pk) (h1 : 0 <= q1) (ha : (pm q4 /\ pm q5 /\ pm q6) /\ (pm q7 /\ pm q8 /\ pm q9))
 (hg : q3 = 0 -> (q4 ≠ q7 -> b0 <= q1) /\ (q5 ≠ q8 -> b1 <= q1) /\ (q6 ≠ q9 -> b2 <= q1)) : okW b0 b1 b2 (tadd pk ln [q0, q1, q2, q3, q4, q5, q6, q7, q8, q9]).1 := by
 by_cases hc : 0 < pk.length /\ q3 ≠ 0 /\ ec pk (pk.length - 1) 3 = q3 /\ ec pk (pk.length - 1) 7 = q7 /\ ec pk (pk.length - 1) 8 = q8 /\ ec pk (pk.length - 1) 9 = q9
 . rw [tadd_more hc]
   have hp := hc.1
   have es : ∀ j c, ec (pk.set (pk.length - 1) (more (pk.getD (pk.length - 1) []) q1)) j c = if pk.length - 1 = j then (more (pk.getD (pk.length - 1) []) q1).getD c 0 else ec pk j c := fun j c => ec_set _ _ _ _ _ (by omega)
   have m : ∀ c, c ≠ 1 -> c < 10 -> (more (pk.getD (pk.length - 1) []) q1).getD c 0 = ec pk (pk.length - 1) c := fun c hc hc2 => by
    have hc : c = 0 ∨ c = 2 ∨ c = 3 ∨ c = 4 ∨ c = 5 ∨ c = 6 ∨ c = 7 ∨ c = 8 ∨ c = 9 := by omega
    rcases hc with rfl | rfl | rfl | rfl | rfl | rfl | rfl | rfl | rfl <;> rfl
   have eq : ∀ k c, c ≠ 1 -> c < 10 -> ec (pk.set (pk.length - 1) (more (pk.getD (pk.length - 1) []) q1)) k c = ec pk k c := fun k c hc hc2 => by
    rw [es]
    split
    . rename_i e; rw [m c hc hc2, e]
    . rfl
   intro j hj
   dsimp only at hj ⊢
   rw [List.length_set] at hj
   have hh := h j hj
   rw [eq j 3 (by decide) (by decide), eq j 4 (by decide) (by decide), eq j 5 (by decide) (by decide), eq j 6 (by decide) (by decide), eq j 7 (by decide) (by decide), eq j 8 (by decide) (by decide), eq j 9 (by decide) (by decide)]
   refine ⟨hh.1, fun e3 => ?_⟩
   have hne : ¬ pk.length - 1 = j := fun e => by
    have := hc.2.2.1
    rw [e] at this
    omega
   rw [es, if_neg hne]
   exact hh.2 e3
 . rw [tadd_app hc]
   intro j hj
   dsimp only at hj ⊢
   have es : ∀ j c, ec (pk ++ [[ln, q1, q2, q3, q4, q5, q6, q7, q8, q9]]) j c = if j < pk.length then ec pk j c else ec [[ln, q1, q2, q3, q4, q5, q6, q7, q8, q9]] (j - pk.length) c := fun j c => ec_app _ _ _ _
   rw [List.length_append] at hj
   have hj : j < pk.length + 1 := hj
   rw [es, es, es, es, es, es, es, es]
   by_cases e : j < pk.length
   . rw [if_pos e, if_pos e, if_pos e, if_pos e, if_pos e, if_pos e, if_pos e, if_pos e]
     exact h j e
   . rw [if_neg e, if_neg e, if_neg e, if_neg e, if_neg e, if_neg e, if_neg e, if_neg e, show j - pk.length = 0 by omega]
     exact ⟨ha, hg⟩
def okWL (b0 b1 b2 : Int) (x : LegS) : Prop := okW b0 b1 b2 x.pk /\ pm x.a0 /\ pm x.a1 /\ pm x.a2
theorem legStep_okW {s0 s1 s2 : Int} {sg : List (List Int)} {b0 b1 b2 f t m : Int} {x : LegS} {k : Nat} (hb : okB3 b0 b1 b2) (hm : pm m) (h : okWL b0 b1 b2 x) : okWL b0 b1 b2 (legStep s0 s1 s2 sg b0 b1 b2 f t m x k) := by
 obtain ⟨h, ha⟩ := h
 unfold legStep legSeg
 generalize legI sg.length m k = i at *
 have n0 : pm (fc1 (bgn s0 sg 0 i) (ec sg i.toNat 0) m x.a0) := fc1_pm ha.1
 have n1 : pm (fc1 (bgn s1 sg 1 i) (ec sg i.toNat 1) m x.a1) := fc1_pm ha.2.1
 have n2 : pm (fc1 (bgn s2 sg 2 i) (ec sg i.toNat 2) m x.a2) := fc1_pm ha.2.2
 generalize fc1 (bgn s0 sg 0 i) (ec sg i.toNat 0) m x.a0 = v0 at *
 generalize fc1 (bgn s1 sg 1 i) (ec sg i.toNat 1) m x.a1 = v1 at *
 generalize fc1 (bgn s2 sg 2 i) (ec sg i.toNat 2) m x.a2 = v2 at *
 generalize legLow x.bg (legE sg m x.bg i) f t = low
 generalize legHigh x.bg (legE sg m x.bg i) f t = high
 generalize legE sg m x.bg i = e
 unfold legPut
 by_cases hlh : low < high
 . rw [if_pos hlh]
   have m0 : m ≠ 0 := by unfold pm at hm; omega
   have hg := slk_ge b0 b1 b2 x.a0 x.a1 x.a2 v0 v1 v2
   have hsb := slk_bd hb x.a0 x.a1 x.a2 v0 v1 v2
   refine ⟨tadd_okW ?_ (by omega) ⟨⟨by assumption, by assumption, by assumption⟩, by assumption, by assumption, by assumption⟩ (fun g => (m0 g).elim), by assumption, by assumption, by assumption⟩
   unfold legTk
   split
   . exact tadd_okW h (by omega) ⟨ha, by assumption, by assumption, by assumption⟩ (fun _ => hg)
   . exact h
 . rw [if_neg hlh]; exact ⟨h, ha⟩
theorem legK_okW {s0 s1 s2 : Int} {sg : List (List Int)} {b0 b1 b2 f t m : Int} {x : LegS} (hb : okB3 b0 b1 b2) (hm : pm m) (h : okWL b0 b1 b2 x) : ∀ k, okWL b0 b1 b2 (legK s0 s1 s2 sg b0 b1 b2 f t m x k)
 | 0 => h
 | k + 1 => legStep_okW hb hm (legK_okW hb hm h k)
theorem leg_okW {s0 s1 s2 : Int} {sg : List (List Int)} {b0 b1 b2 d0 d1 d2 f t : Int} (hb : okB3 b0 b1 b2) (hd : pm d0 /\ pm d1 /\ pm d2) : okW b0 b1 b2 (leg s0 s1 s2 sg b0 b1 b2 d0 d1 d2 f t).pk := by
 unfold leg
 exact (legK_okW (x := ⟨[], 0, d0, d1, d2, if legM f t < 0 then plen sg else 0⟩) hb (legM_pm f t) ⟨fun j hj => absurd hj (Nat.not_lt_zero _), hd⟩ sg.length).1
theorem tsh_face {bl mv w n at_ L u : Int} (hw : pm w) (hn : pm n) (hb : 0 <= bl) (hg : mv = 0 -> w ≠ n -> bl <= L) (hu : at_ <= u) (hl : ¬ (mv = 0 /\ at_ < u /\ u < at_ + L)) (hu2 : u <= at_ + L) :
 tsh bl mv w n at_ u = bsh bl (if mv ≠ 0 ∨ u = at_ + L then n else w) := by
 by_cases h0 : mv = 0
 . subst h0
   by_cases e : u = at_ + L
   . rw [if_pos (.inr e), e]; exact tsh_end hn (hg rfl)
   . rw [if_neg (by simp [e])]
     have : u = at_ := by omega
     rw [this]; exact tsh_zero hw hn hb
 . rw [if_pos (.inl h0)]; exact tsh_move h0
theorem shf_face {pk : List (List Int)} {ln b0 b1 b2 d0 d1 d2 u : Int} (h : okTrk pk ln) (hW : okW b0 b1 b2 pk) (hb : okB3 b0 b1 b2) (hd : pm d0 /\ pm d1 /\ pm d2) (hu : 0 <= u /\ u <= ln) (hl : tloose pk u = false) :
 (tshf pk d0 b0 u 0 = bsh b0 (tface pk d0 0 u) /\ tshf pk d1 b1 u 1 = bsh b1 (tface pk d1 1 u) /\ tshf pk d2 b2 u 2 = bsh b2 (tface pk d2 2 u)) /\ (pm (tface pk d0 0 u) /\ pm (tface pk d1 1 u) /\ pm (tface pk d2 2 u)) := by
 rcases tfind_spec h hu.2 with ⟨_, e⟩ | ⟨j, j1, j2, j3, j4⟩
 . have z : tfind pk u < 0 := by omega
   unfold tshf tface
   rw [if_pos z, if_pos z, if_pos z, if_pos z, if_pos z, if_pos z]
   exact ⟨⟨rfl, rfl, rfl⟩, hd⟩
 . have a := at_le h hu.1 j1 j4
   have ee : endp pk j = ec pk j 0 + ec pk j 1 := rfl
   have w := hW j j1
   unfold tloose at hl
   rw [j2] at hl
   have ht : ((j : Int)).toNat = j := rfl
   rw [ht] at hl
   have nl : ¬ (ec pk j 3 = 0 /\ ec pk j 0 < u /\ u < ec pk j 0 + ec pk j 1) := fun g => by
    rw [decide_eq_true (show (0 : Int) <= (j : Int) by omega), decide_eq_true (show ec pk j 0 < u by omega), decide_eq_true (show u < endp pk j by omega), g.1] at hl
    simp at hl
   rw [shf_at j2, shf_at j2, shf_at j2, tface_of j2, tface_of j2, tface_of j2]
   have g0 := tsh_face (bl := b0) w.1.1.1 w.1.2.1 hb.1.1 (fun g => (w.2 g).1) a nl (by omega)
   have g1 := tsh_face (bl := b1) w.1.1.2.1 w.1.2.2.1 hb.2.1.1 (fun g => (w.2 g).2.1) a nl (by omega)
   have g2 := tsh_face (bl := b2) w.1.1.2.2 w.1.2.2.2 hb.2.2.1 (fun g => (w.2 g).2.2) a nl (by omega)
   refine ⟨⟨g0, g1, g2⟩, ?_⟩
   by_cases e : ec pk j 3 ≠ 0 ∨ u = ec pk j 0 + ec pk j 1
   . rw [if_pos e, if_pos e, if_pos e]; exact w.1.2
   . rw [if_neg e, if_neg e, if_neg e]; exact w.1.1
theorem loose_end {pk : List (List Int)} {ln : Int} (h : okTrk pk ln) : tloose pk ln = false := by
 rcases tfind_spec h (Int.le_refl ln) with ⟨_, e⟩ | ⟨j, j1, j2, j3, j4⟩
 . unfold tloose
   rw [decide_eq_false (show ¬ (0 : Int) <= tfind pk ln by omega)]; rfl
 . have := at_bd h j1
   unfold tloose
   rw [j2]
   have ht : ((j : Int)).toNat = j := rfl
   rw [ht, decide_eq_false (show ¬ ln < endp pk j by omega)]; simp
theorem place_bd {s0 s1 s2 : Int} {sgs : List (List Int)} {b0 b1 b2 d0 d1 d2 f m ln p a0 a1 a2 : Int} {pk : List (List Int)} (h : legOK s0 s1 s2 sgs b0 b1 b2 d0 d1 d2 f m pk ln p a0 a1 a2) (hf : 0 <= f /\ f <= plen sgs) :
 ∀ n : Nat, (n : Int) <= ln -> 0 <= tplace pk f n /\ tplace pk f n <= plen sgs
 | 0, _ => by
  have := h.2.2.2.1
  show 0 <= tplace pk f 0 /\ tplace pk f 0 <= plen sgs
  omega
 | n + 1, hn => by
  have ih := place_bd h hf n (by omega)
  have e : ((n + 1 : Nat) : Int) - 1 = n := by omega
  rcases (h.2.2.2.2.2.2.2 ((n + 1 : Nat) : Int) (by omega)).1 with ⟨g, _⟩ | ⟨_, g, _⟩
  . rw [e] at g; rw [g]; exact ih
  . exact g
theorem okRun_W {x : RunS} (h : okRun x) : okW x.a.bl x.b.bl x.c.bl x.pk := by
 have hd := h.2.2.2.2.1
 rw [h.2.2.2.2.2.2.2.1]
 exact leg_okW (okRun_b3 h) hd
theorem okRun_place {x : RunS} (h : okRun x) {u : Int} (hu : 0 <= u /\ u <= x.ln) : 0 <= tplace x.pk x.f u /\ tplace x.pk x.f u <= plen x.sg := by
 obtain ⟨a0, a1, a2, L⟩ := okRun_leg h
 have := place_bd L h.2.2.2.2.2.1 u.toNat (by omega)
 rw [show ((u.toNat : Nat) : Int) = u by omega] at this
 exact this
theorem okRun_face {x : RunS} (h : okRun x) {u : Int} (hu : 0 <= u /\ u <= x.ln) (hl : tloose x.pk u = false) :
 (tshf x.pk x.d0 x.a.bl u 0 = bsh x.a.bl (tface x.pk x.d0 0 u) /\ tshf x.pk x.d1 x.b.bl u 1 = bsh x.b.bl (tface x.pk x.d1 1 u) /\ tshf x.pk x.d2 x.c.bl u 2 = bsh x.c.bl (tface x.pk x.d2 2 u)) /\ (pm (tface x.pk x.d0 0 u) /\ pm (tface x.pk x.d1 1 u) /\ pm (tface x.pk x.d2 2 u)) :=
 shf_face (okRun_pre h).2.2.1 (okRun_W h) (okRun_b3 h) h.2.2.2.2.1 hu hl
theorem okRun_next {x : RunS} (h : okRun x) {u to : Int} (hu : 0 <= u /\ u <= x.ln) (hl : tloose x.pk u = false) (ht : 0 <= to /\ to <= plen x.sg) : okRun (x.next u to) := by
 have p := okRun_place h hu
 have f := (okRun_face h hu hl).2
 obtain ⟨h1, h2, h3, h4, _⟩ := h
 exact ⟨h1, h2, h3, h4, f, p, ht, rfl, rfl⟩
theorem next_M {x : RunS} (h : okRun x) {u to : Int} (hu : 0 <= u /\ u <= x.ln) (hl : tloose x.pk u = false) (ht : 0 <= to /\ to <= plen x.sg) :
 (x.next u to).M0 0 = x.M0 u /\ (x.next u to).M1 0 = x.M1 u /\ (x.next u to).M2 0 = x.M2 u /\ tplace (x.next u to).pk (x.next u to).f 0 = tplace x.pk x.f u := by
 obtain ⟨a0, a1, a2, L⟩ := okRun_leg (okRun_next h hu hl ht)
 have f := (okRun_face h hu hl).1
 have hp := L.2.2.2.1
 obtain ⟨e0, e1, e2⟩ := L.2.2.2.2.2.2.1
 unfold RunS.M0 RunS.M1 RunS.M2
 rw [mtr_shf, mtr_shf, mtr_shf, mtr_shf, mtr_shf, mtr_shf, e0, e1, e2, hp, f.1, f.2.1, f.2.2]
 exact ⟨rfl, rfl, rfl, rfl⟩
theorem run_end {x : RunS} (h : okRun x) : tplace x.pk x.f x.ln = x.t := by
 obtain ⟨a0, a1, a2, L⟩ := okRun_leg h
 exact L.2.2.1
end Go.Proofs.YtneingpnkdeooaaGreat
namespace U
open Go Go.HL
def tkC (x : RunS) : List HC := [.sl false [4, 4, 4, 4, 4, 4, 4, 4, 4, 4] x.pk, .int .i64 x.ln, .int .i64 x.f, .int .i64 x.d0, .int .i64 x.d1, .int .i64 x.d2]
def onP (x y : RunS) : Prop := okRun y /\ y.s0 = x.s0 /\ y.s1 = x.s1 /\ y.s2 = x.s2 /\ y.sg = x.sg /\ y.mks = x.mks /\ y.a = x.a /\ y.b = x.b /\ y.c = x.c
structure RetS where
 y : RunS
 p : PS
end U
namespace Go.Proofs.YtneingpnkdeooaaGreat
open Go Go.HL U
def SFin (hA : List HV) (pA : List (List HC)) : SR :=
 match hA, pA with
 | [.agg [.sl false [4, 4, 4, 4, 4, 4, 4, 4, 4, 4] pk, .int .i64 ln, .int .i64 sa, .int .i64 d0, .int .i64 d1, .int .i64 d2]], [] => .det (okTrk pk ln) ⟨.agg [.int .i64 (tface pk d0 0 ln), .int .i64 (tface pk d1 1 ln), .int .i64 (tface pk d2 2 ln)], false, [], []⟩
 | _, _ => .fail
noncomputable def CFin : Ctx := ⟨Tryz.prog, gam [], Tryz.f33.ntmps, [], []⟩
theorem vcFin (ln sa d0 d1 d2 : Int) (pk : List (List Int)) (Q : Res -> Prop) : (nfun true CFin Tryz.f33 (bodyOf Tryz.f33) [.agg [.sl false [4, 4, 4, 4, 4, 4, 4, 4, 4, 4] pk, I6 ln, I6 sa, I6 d0, I6 d1, I6 d2]] [] Q) =
 ((decide ((pk.length : Int) > 0) = true -> (-9223372036854775808 <= (pk.length : Int) - 1 /\ (pk.length : Int) - 1 <= 9223372036854775807) /\ ∀ (x1 : Int), x1 = (pk.length : Int) - 1 -> (0 <= x1 /\ x1 < (pk.length : Int)) /\ Q ⟨.agg [I6 (ec pk x1.toNat 7), I6 (ec pk x1.toNat 8), I6 (ec pk x1.toNat 9)], false, [], []⟩) /\ (decide ((pk.length : Int) > 0) = false -> Q ⟨.agg [I6 d0, I6 d1, I6 d2], false, [], []⟩)) := by kernel_rfl
def SRet (hA : List HV) (pA : List (List HC)) : SR :=
 match hA, pA with
 | [.ce (.sl false [4] l), .ce (.sl false [4] ax), .ce (.int .i64 fr), .ce (.int .i64 to), .ce (.int .u8 n)], [] => .det (l.length <= 9223372036854775807 /\ ax.length <= 9223372036854775807 /\ (0 <= n /\ n <= 255)) okR
 | _, _ => .fail
def tabRet : List (FuncId × HL.Spec) := [(15, STrue0), (16, STrack), (28, SPLen), (11, SMod), (32, SLeg), (33, SFin), (17, SPStart), (13, SBetween), (18, SPStep), (19, SMotors), (21, SPlace)]
def anRet : LAnn := ⟨[4, 11, 13, 14, 15, 16, 17, 18], [11, 15, 16, 17], [1000011, 1000015, 1000016, 1000017], false⟩
def LRet (v : LV) : LR :=
 match v with
 | ([.ce (.int .u8 n), .ce (.ptr 1000011 0), .ce (.int .i64 a), .ce (.int .i64 b), .ce (.ptr 1000015 0), .ce (.ptr 1000016 0), .ce (.ptr 1000017 0), .ce (.int .i64 i)], [rb, rt, [.int .i64 m0, .int .i64 m1, .int .i64 m2, .int .i64 t0, .int .i64 t1, .int .i64 t2], [.int .i64 h0, .int .i64 h1, .int .i64 h2]]) =>
  .all (i = 0 /\ (0 <= n /\ n <= 255) /\ ∃ x y, rb = runC x /\ rt = tkC y /\ onP x y /\ (0 <= a /\ a <= plen x.sg) /\ (0 <= b /\ b <= plen x.sg) /\ y.t = a /\ (⟨m0, m1, m2, t0, t1, t2⟩ : PS) = y.at y.ln /\ h0 = t0 /\ h1 = t1 /\ h2 = t2) RetS
   (fun s => (∃ x, rb = runC x /\ onP x s.y) /\ s.p = s.y.at s.y.ln /\ s.p.t0 = h0 /\ s.p.t1 = h1 /\ s.p.t2 = h2) (fun _ => .exit 0)
   (fun s => ([.ce (.ptr 1000011 0), .ce (.ptr 1000015 0), .ce (.ptr 1000016 0), .ce (.ptr 1000017 0)], [rb, tkC s.y, [.int .i64 s.p.m0, .int .i64 s.p.m1, .int .i64 s.p.m2, .int .i64 s.p.t0, .int .i64 s.p.t1, .int .i64 s.p.t2], [.int .i64 h0, .int .i64 h1, .int .i64 h2]]))
 | _ => .fail
noncomputable def CRet : Ctx := ⟨Tryz.prog, gam tabRet, Tryz.f8.ntmps, [(10, anRet, LRet), (4000013, ⟨[], [3], [1000011, 1000015, 1000016, 1000017], true⟩, fun _ => .fail)], []⟩
theorem vbRet (n a b i m0 m1 m2 t0 t1 t2 h0 h1 h2 ln sa d0 d1 d2 : Int) (pk : List (List Int)) (x : RunS) (K : HEx -> LV -> Prop) : (nbodyT true CRet anRet (nthLoop Tryz.f8 0) (([.ce (.int .u8 n), .ce (.ptr 1000011 0), .ce (I6 a), .ce (I6 b), .ce (.ptr 1000015 0), .ce (.ptr 1000016 0), .ce (.ptr 1000017 0), .ce (I6 i)], [[I6 x.s0, I6 x.s1, I6 x.s2, .sl false [4, 4, 4, 4, 4, 4, 4] x.sg, .sl false [4, 4, 4] x.mks, I6 x.a.st, I6 x.a.sp, I6 x.a.ac, I6 x.a.je, I6 (-16777216), I6 16777216, I6 x.a.bl, I6 x.a.og, I6 x.a.sg, .sl false [4] x.a.pit, I6 x.b.st, I6 x.b.sp, I6 x.b.ac, I6 x.b.je, I6 (-16777216), I6 16777216, I6 x.b.bl, I6 x.b.og, I6 x.b.sg, .sl false [4] x.b.pit, I6 x.c.st, I6 x.c.sp, I6 x.c.ac, I6 x.c.je, I6 (-16777216), I6 16777216, I6 x.c.bl, I6 x.c.og, I6 x.c.sg, .sl false [4] x.c.pit, .sl false [4, 4, 4, 4, 4, 4, 4, 4, 4, 4] x.pk, I6 x.ln, I6 x.f, I6 x.d0, I6 x.d1, I6 x.d2], [.sl false [4, 4, 4, 4, 4, 4, 4, 4, 4, 4] pk, I6 ln, I6 sa, I6 d0, I6 d1, I6 d2], [I6 m0, I6 m1, I6 m2, I6 t0, I6 t1, I6 t2], [I6 h0, I6 h1, I6 h2]])) K) =
 ((4 : Int) ≠ (0 : Int) /\ ∀ (x1 : Int), x1 = Int.tmod n 4 -> (-9223372036854775808 <= x1 /\ x1 <= 9223372036854775807) /\ ∀ (x2 : Int), x2 = x1 -> (decide (i < x2) = true -> okTrk pk ln /\ ∀ (x3 : Int), x3 = tface pk d0 (0 : Nat) ln -> ∀ (x4 : Int), x4 = tface pk d1 (1 : Nat) ln -> ∀ (x5 : Int), x5 = tface pk d2 (2 : Nat) ln -> okTrk pk ln /\ ∀ (x6 : Int), x6 = tplace pk sa (clamp ln ln) -> (okLen x.sg /\ okPts x.s0 x.s1 x.s2 x.sg /\ okB3 x.a.bl x.b.bl x.c.bl) /\ (∃ (x_1 : LegS), x_1 = leg x.s0 x.s1 x.s2 x.sg x.a.bl x.b.bl x.c.bl x3 x4 x5 (clamp (plen x.sg) x6) (clamp (plen x.sg) b)) /\ ∀ (x_1 : LegS), x_1 = leg x.s0 x.s1 x.s2 x.sg x.a.bl x.b.bl x.c.bl x3 x4 x5 (clamp (plen x.sg) x6) (clamp (plen x.sg) b) -> ((okLen x.sg /\ okPts x.s0 x.s1 x.s2 x.sg /\ okTrk x_1.pk x_1.ln /\ okMA x.a.st x.a.og x.a.sg x.a.pit x.a.bl /\ okMA x.b.st x.b.og x.b.sg x.b.pit x.b.bl /\ okMA x.c.st x.c.og x.c.sg x.c.pit x.c.bl /\ 0 <= clamp (plen x.sg) x6 /\
 clamp (plen x.sg) x6 <= 18014398509481984) /\ x_1.ln <= 1099511627776) /\ (∃ (x_2 : List (List Int)), x_2 = plN (mtr x.a.st x.a.og x.a.sg x.a.pit x.a.bl x.s0 x.sg (0 : Nat) x_1.pk (clamp (plen x.sg) x6) x3) (mtr x.b.st x.b.og x.b.sg x.b.pit x.b.bl x.s1 x.sg (1 : Nat) x_1.pk (clamp (plen x.sg) x6) x4) (mtr x.c.st x.c.og x.c.sg x.c.pit x.c.bl x.s2 x.sg (2 : Nat) x_1.pk (clamp (plen x.sg) x6) x5) (clamp x_1.ln (0 : Int)) (Int.toNat (clamp x_1.ln x_1.ln - clamp x_1.ln (0 : Int)))) /\ ∀ (x_2 : List (List Int)), x_2 = plN (mtr x.a.st x.a.og x.a.sg x.a.pit x.a.bl x.s0 x.sg (0 : Nat) x_1.pk (clamp (plen x.sg) x6) x3) (mtr x.b.st x.b.og x.b.sg x.b.pit x.b.bl x.s1 x.sg (1 : Nat) x_1.pk (clamp (plen x.sg) x6) x4) (mtr x.c.st x.c.og x.c.sg x.c.pit x.c.bl x.s2 x.sg (2 : Nat) x_1.pk (clamp (plen x.sg) x6) x5) (clamp x_1.ln (0 : Int)) (Int.toNat (clamp x_1.ln x_1.ln - clamp x_1.ln (0 : Int))) -> ((okBl x.a.bl /\
 okBl x.b.bl /\ okBl x.c.bl) /\ smallPS (1152921504606846976 : Int) { m0 := m0, m1 := m1, m2 := m2, t0 := t0, t1 := t1, t2 := t2 } /\ x_2.length <= 1152921504606846976) /\ (∃ (x_3 : PS), x_3 = pall x.a.bl x.b.bl x.c.bl { m0 := m0, m1 := m1, m2 := m2, t0 := t0, t1 := t1, t2 := t2 } x_2) /\ ∀ (x_3 : PS), x_3 = pall x.a.bl x.b.bl x.c.bl { m0 := m0, m1 := m1, m2 := m2, t0 := t0, t1 := t1, t2 := t2 } x_2 -> okTrk x_1.pk x_1.ln /\ ∀ (x10 : Int), x10 = tface x_1.pk x3 (0 : Nat) x_1.ln -> ∀ (x11 : Int), x11 = tface x_1.pk x4 (1 : Nat) x_1.ln -> ∀ (x12 : Int), x12 = tface x_1.pk x5 (2 : Nat) x_1.ln -> okTrk x_1.pk x_1.ln /\ ∀ (x13 : Int), x13 = tplace x_1.pk (clamp (plen x.sg) x6) (clamp x_1.ln x_1.ln) -> (okLen x.sg /\ okPts x.s0 x.s1 x.s2 x.sg /\ okB3 x.a.bl x.b.bl x.c.bl) /\ (∃ (x_4 : LegS), x_4 = leg x.s0 x.s1 x.s2 x.sg x.a.bl x.b.bl x.c.bl x10 x11 x12 (clamp (plen x.sg) x13) (clamp (plen x.sg) a)) /\
 ∀ (x_4 : LegS), x_4 = leg x.s0 x.s1 x.s2 x.sg x.a.bl x.b.bl x.c.bl x10 x11 x12 (clamp (plen x.sg) x13) (clamp (plen x.sg) a) -> ((okLen x.sg /\ okPts x.s0 x.s1 x.s2 x.sg /\ okTrk x_4.pk x_4.ln /\ okMA x.a.st x.a.og x.a.sg x.a.pit x.a.bl /\ okMA x.b.st x.b.og x.b.sg x.b.pit x.b.bl /\ okMA x.c.st x.c.og x.c.sg x.c.pit x.c.bl /\ 0 <= clamp (plen x.sg) x13 /\ clamp (plen x.sg) x13 <= 18014398509481984) /\ x_4.ln <= 1099511627776) /\ (∃ (x_5 : List (List Int)), x_5 = plN (mtr x.a.st x.a.og x.a.sg x.a.pit x.a.bl x.s0 x.sg (0 : Nat) x_4.pk (clamp (plen x.sg) x13) x10) (mtr x.b.st x.b.og x.b.sg x.b.pit x.b.bl x.s1 x.sg (1 : Nat) x_4.pk (clamp (plen x.sg) x13) x11) (mtr x.c.st x.c.og x.c.sg x.c.pit x.c.bl x.s2 x.sg (2 : Nat) x_4.pk (clamp (plen x.sg) x13) x12) (clamp x_4.ln (0 : Int)) (Int.toNat (clamp x_4.ln x_4.ln - clamp x_4.ln (0 : Int)))) /\ ∀ (x_5 : List (List Int)), x_5 = plN (mtr x.a.st x.a.og x.a.sg x.a.pit x.a.bl x.s0 x.sg (0 : Nat) x_4.pk (clamp (plen x.sg) x13) x10) (mtr x.b.st x.b.og x.b.sg x.b.pit x.b.bl x.s1 x.sg (1 : Nat) x_4.pk (clamp (plen x.sg) x13) x11) (mtr x.c.st x.c.og x.c.sg x.c.pit x.c.bl x.s2 x.sg (2 : Nat) x_4.pk (clamp (plen x.sg) x13) x12) (clamp x_4.ln (0 : Int)) (Int.toNat (clamp x_4.ln x_4.ln - clamp x_4.ln (0 : Int))) ->
 ((okBl x.a.bl /\ okBl x.b.bl /\ okBl x.c.bl) /\ smallPS (1152921504606846976 : Int) { m0 := x_3.m0, m1 := x_3.m1, m2 := x_3.m2, t0 := x_3.t0, t1 := x_3.t1, t2 := x_3.t2 } /\ x_5.length <= 1152921504606846976) /\ (∃ (x_6 : PS), x_6 = pall x.a.bl x.b.bl x.c.bl { m0 := x_3.m0, m1 := x_3.m1, m2 := x_3.m2, t0 := x_3.t0, t1 := x_3.t1, t2 := x_3.t2 } x_5) /\ ∀ (x_6 : PS), x_6 = pall x.a.bl x.b.bl x.c.bl { m0 := x_3.m0, m1 := x_3.m1, m2 := x_3.m2, t0 := x_3.t0, t1 := x_3.t1, t2 := x_3.t2 } x_5 -> (-9223372036854775808 <= i + 1 /\ i + 1 <= 9223372036854775807) /\ ∀ (x17 : Int), x17 = i + 1 -> K .normal ([.ce (.int .u8 n), .ce (.ptr 1000011 0), .ce (I6 a), .ce (I6 b), .ce (.ptr 1000015 0), .ce (.ptr 1000016 0), .ce (.ptr 1000017 0), .ce (I6 x17)], [(runC x), [.sl false [4, 4, 4, 4, 4, 4, 4, 4, 4, 4] x_4.pk, I6 x_4.ln, I6 (clamp (plen x.sg) x13), I6 x10, I6 x11, I6 x12], [I6 x_6.m0, I6 x_6.m1, I6 x_6.m2, I6 x_6.t0, I6 x_6.t1, I6 x_6.t2], [I6 h0, I6 h1, I6 h2]])) /\
 (decide (i < x2) = false -> K (.exit 0) ([.ce (.ptr 1000011 0), .ce (.ptr 1000015 0), .ce (.ptr 1000016 0), .ce (.ptr 1000017 0)], [(runC x), [.sl false [4, 4, 4, 4, 4, 4, 4, 4, 4, 4] pk, I6 ln, I6 sa, I6 d0, I6 d1, I6 d2], [I6 m0, I6 m1, I6 m2, I6 t0, I6 t1, I6 t2], [I6 h0, I6 h1, I6 h2]]))) := by kernel_rfl
theorem vcRet (l ax : List (List Int)) (fr to n : Int) (Q : Res -> Prop) : (nfun true CRet Tryz.f8 (bodyOf Tryz.f8) [.ce (.sl false [4] l), .ce (.sl false [4] ax), .ce (I6 fr), .ce (I6 to), .ce (.int .u8 n)] [] Q) =
 (True /\ (∃ (x : Bool), x = true) /\ ∀ (x : Bool), x = true -> ((!x) = true -> Q ⟨.ce (.bool false), false, [], []⟩) /\ ((!x) = false -> (((0 : Int) <= 3 /\ (3 : Int) <= 5) /\ (0 : Int) = 0 /\ l.length <= 9223372036854775807 /\ ax.length <= 9223372036854775807) /\ (∃ (x : RunS), okTr x) /\ ∀ (x : RunS), okTr x -> okLen x.sg /\ ∀ (x3 : Int), x3 = plen x.sg -> (-9223372036854775808 <= x3 + 1 /\ x3 + 1 <= 9223372036854775807) /\ ∀ (x4 : Int), x4 = x3 + 1 -> (0 < x4 /\ x4 <= 4611686018427387904) /\ ∀ (x5 : Int), x5 = fr % x4 -> (-9223372036854775808 <= x3 + 1 /\ x3 + 1 <= 9223372036854775807) /\ ∀ (x6 : Int), x6 = x3 + 1 -> (0 < x6 /\ x6 <= 4611686018427387904) /\ ∀ (x7 : Int), x7 = to % x6 -> (okLen x.sg /\ okPts x.s0 x.s1 x.s2 x.sg /\ okB3 x.a.bl x.b.bl x.c.bl) /\ (∃ (x_1 : LegS), x_1 = leg x.s0 x.s1 x.s2 x.sg x.a.bl x.b.bl x.c.bl (1 : Int) (1 : Int) (1 : Int) (clamp (plen x.sg) (0 : Int)) (clamp (plen x.sg) x5)) /\
 ∀ (x_1 : LegS), x_1 = leg x.s0 x.s1 x.s2 x.sg x.a.bl x.b.bl x.c.bl (1 : Int) (1 : Int) (1 : Int) (clamp (plen x.sg) (0 : Int)) (clamp (plen x.sg) x5) -> (((0 < x.a.st /\ x.a.st <= 16777216) /\ okC x.a.og x.a.sg x.a.pit /\ (-1073741824 : Int) <= x.s0 /\ x.s0 <= 1073741824) /\ ((0 < x.b.st /\ x.b.st <= 16777216) /\ okC x.b.og x.b.sg x.b.pit /\ (-1073741824 : Int) <= x.s1 /\ x.s1 <= 1073741824) /\ (0 < x.c.st /\ x.c.st <= 16777216) /\ okC x.c.og x.c.sg x.c.pit /\ (-1073741824 : Int) <= x.s2 /\ x.s2 <= 1073741824) /\ ∀ (x9 : Int), x9 = mot x.a.st x.a.og x.a.sg x.a.pit x.s0 -> ∀ (x10 : Int), x10 = mot x.b.st x.b.og x.b.sg x.b.pit x.s1 -> ∀ (x11 : Int), x11 = mot x.c.st x.c.og x.c.sg x.c.pit x.s2 -> ∀ (x12 : Int), x12 = mot x.a.st x.a.og x.a.sg x.a.pit x.s0 -> ∀ (x13 : Int), x13 = mot x.b.st x.b.og x.b.sg x.b.pit x.s1 -> ∀ (x14 : Int), x14 = mot x.c.st x.c.og x.c.sg x.c.pit x.s2 -> ((okLen x.sg /\ okPts x.s0 x.s1 x.s2 x.sg /\ okTrk x_1.pk x_1.ln /\
 okMA x.a.st x.a.og x.a.sg x.a.pit x.a.bl /\ okMA x.b.st x.b.og x.b.sg x.b.pit x.b.bl /\ okMA x.c.st x.c.og x.c.sg x.c.pit x.c.bl /\ 0 <= clamp (plen x.sg) (0 : Int) /\ clamp (plen x.sg) (0 : Int) <= 18014398509481984) /\ x_1.ln <= 1099511627776) /\ (∃ (x_2 : List (List Int)), x_2 = plN (mtr x.a.st x.a.og x.a.sg x.a.pit x.a.bl x.s0 x.sg (0 : Nat) x_1.pk (clamp (plen x.sg) (0 : Int)) (1 : Int)) (mtr x.b.st x.b.og x.b.sg x.b.pit x.b.bl x.s1 x.sg (1 : Nat) x_1.pk (clamp (plen x.sg) (0 : Int)) (1 : Int)) (mtr x.c.st x.c.og x.c.sg x.c.pit x.c.bl x.s2 x.sg (2 : Nat) x_1.pk (clamp (plen x.sg) (0 : Int)) (1 : Int)) (clamp x_1.ln (0 : Int)) (Int.toNat (clamp x_1.ln x_1.ln - clamp x_1.ln (0 : Int)))) /\ ∀ (x_2 : List (List Int)), x_2 = plN (mtr x.a.st x.a.og x.a.sg x.a.pit x.a.bl x.s0 x.sg (0 : Nat) x_1.pk (clamp (plen x.sg) (0 : Int)) (1 : Int)) (mtr x.b.st x.b.og x.b.sg x.b.pit x.b.bl x.s1 x.sg (1 : Nat) x_1.pk (clamp (plen x.sg) (0 : Int)) (1 : Int)) (mtr x.c.st x.c.og x.c.sg x.c.pit x.c.bl x.s2 x.sg (2 : Nat) x_1.pk (clamp (plen x.sg) (0 : Int)) (1 : Int)) (clamp x_1.ln (0 : Int)) (Int.toNat (clamp x_1.ln x_1.ln - clamp x_1.ln (0 : Int))) ->
 ((okBl x.a.bl /\ okBl x.b.bl /\ okBl x.c.bl) /\ smallPS (1152921504606846976 : Int) { m0 := x9, m1 := x10, m2 := x11, t0 := x12, t1 := x13, t2 := x14 } /\ x_2.length <= 1152921504606846976) /\ (∃ (x_3 : PS), x_3 = pall x.a.bl x.b.bl x.c.bl { m0 := x9, m1 := x10, m2 := x11, t0 := x12, t1 := x13, t2 := x14 } x_2) /\ ∀ (x_3 : PS), x_3 = pall x.a.bl x.b.bl x.c.bl { m0 := x9, m1 := x10, m2 := x11, t0 := x12, t1 := x13, t2 := x14 } x_2 -> ((0 : Int) = 0 /\ (0 <= n /\ n <= 255) /\ ∃ (x_4 : RunS), ∃ (y : RunS), (runC x) = runC x_4 /\
 [.sl false [4, 4, 4, 4, 4, 4, 4, 4, 4, 4] x_1.pk, I6 x_1.ln, I6 (clamp (plen x.sg) (0 : Int)), I6 1, I6 1, I6 1] = tkC y /\ onP x_4 y /\ (0 <= x5 /\ x5 <= plen x_4.sg) /\ (0 <= x7 /\ x7 <= plen x_4.sg) /\ y.t = x5 /\ { m0 := x_3.m0, m1 := x_3.m1, m2 := x_3.m2, t0 := x_3.t0, t1 := x_3.t1, t2 := x_3.t2 } = RunS.at y y.ln /\ x_3.t0 = x_3.t0 /\ x_3.t1 = x_3.t1 /\ x_3.t2 = x_3.t2) /\ ∀ (x_4 : RetS), (∃ (x_5 : RunS), (runC x) = runC x_5 /\
 onP x_5 x_4.y) /\ x_4.p = RunS.at x_4.y x_4.y.ln /\ x_4.p.t0 = x_3.t0 /\ x_4.p.t1 = x_3.t1 /\ x_4.p.t2 = x_3.t2 -> ((x_4.p.t0 == x_3.t0 && (x_4.p.t1 == x_3.t1 && (x_4.p.t2 == x_3.t2 && true))) = true -> (okLen x.sg /\ okPts x.s0 x.s1 x.s2 x.sg /\ okTrk x_4.y.pk x_4.y.ln /\ okMA x.a.st x.a.og x.a.sg x.a.pit x.a.bl /\ okMA x.b.st x.b.og x.b.sg x.b.pit x.b.bl /\ okMA x.c.st x.c.og x.c.sg x.c.pit x.c.bl /\ 0 <= x_4.y.f /\ x_4.y.f <= 18014398509481984) /\ ∀ (x18 : Int), x18 = tmot x.a.st x.a.og x.a.sg x.a.pit x.a.bl (ptAt x.s0 x.sg (0 : Nat) (tplace x_4.y.pk x_4.y.f (clamp x_4.y.ln x_4.y.ln))) x_4.y.pk x_4.y.d0 (clamp x_4.y.ln x_4.y.ln) (0 : Nat) -> ∀ (x19 : Int), x19 = tmot x.b.st x.b.og x.b.sg x.b.pit x.b.bl (ptAt x.s1 x.sg (1 : Nat) (tplace x_4.y.pk x_4.y.f (clamp x_4.y.ln x_4.y.ln))) x_4.y.pk x_4.y.d1 (clamp x_4.y.ln x_4.y.ln) (1 : Nat) -> ∀ (x20 : Int), x20 = tmot x.c.st x.c.og x.c.sg x.c.pit x.c.bl (ptAt x.s2 x.sg (2 : Nat) (tplace x_4.y.pk x_4.y.f (clamp x_4.y.ln x_4.y.ln))) x_4.y.pk x_4.y.d2 (clamp x_4.y.ln x_4.y.ln) (2 : Nat) ->
 Q ⟨.ce (.bool (x_4.p.m0 == x18 && (x_4.p.m1 == x19 && (x_4.p.m2 == x20 && true)))), false, [], []⟩) /\ ((x_4.p.t0 == x_3.t0 && (x_4.p.t1 == x_3.t1 && (x_4.p.t2 == x_3.t2 && true))) = false -> Q ⟨.ce (.bool false), false, [], []⟩))) := by kernel_rfl
section
attribute [local irreducible] hfun bodyT fragT
theorem tface_end {pk : List (List Int)} {ln : Int} (h : okTrk pk ln) (d : Int) (c : Nat) : tface pk d c ln = if (pk.length : Int) > 0 then ec pk (pk.length - 1) (7 + c) else d := by
 rcases tfind_spec h (Int.le_refl ln) with ⟨e0, e⟩ | ⟨j, j1, j2, j3, j4⟩
 . unfold tface
   rw [if_pos (by omega), if_neg (by omega)]
 . have hb := at_bd h j1
   have he := h.2.2.2.1 (by omega)
   have jl : j = pk.length - 1 := by
    by_cases c2 : j + 1 < pk.length
    . have h1 := h.2.2.2.2.1 j c2
      have h2 := at_bd h c2
      have h3 := h.2.2.2.2.2 (j + 1) c2
      unfold endp at *
      omega
    . omega
   have he := he.2
   unfold endp at he
   subst jl
   unfold tface
   rw [j2, if_neg (show ¬ ((pk.length - 1 : Nat) : Int) < 0 by omega), Int.toNat_natCast, if_pos (show ec pk (pk.length - 1) 3 ≠ 0 ∨ ln = ec pk (pk.length - 1) 0 + ec pk (pk.length - 1) 1 from .inr (by omega)), if_pos (show (pk.length : Int) > 0 by omega)]
theorem sFin : Sound Tryz.prog 33 SFin := by
 refine sound_of (C := CFin) [] Tryz.func33 (by kernel_rfl) (by decide +kernel) (by kernel_rfl) rfl trivial (loops0 (by kernel_rfl)) ?_
 intro hA pA R h
 unfold SFin at h
 split at h
 case h_2 => exfalso; exact h
 rename_i pk ln sa d0 d1 d2
 obtain ⟨hk, hq⟩ := h
 rw [tface_end hk, tface_end hk, tface_end hk] at hq
 refine byVC (vcFin ln sa d0 d1 d2 pk R) ⟨fun g => ?_, fun g => ?_⟩
 . have g := of_decide_eq_true g
   have := hk.1
   rw [if_pos g, if_pos g, if_pos g] at hq
   refine ⟨by omega, fun x1 e1 => ⟨by omega, ?_⟩⟩
   rw [show x1.toNat = pk.length - 1 by omega]; exact hq
 . have g := of_decide_eq_false g
   rw [if_neg g, if_neg g, if_neg g] at hq; exact hq
theorem leg_at {y : RunS} (h : okRun y) {to : Int} (ht : 0 <= to /\ to <= plen y.sg) : okRun (y.next y.ln to) /\ (y.next y.ln to).at 0 = y.at y.ln /\
 pall y.a.bl y.b.bl y.c.bl (y.at y.ln) (plN (y.next y.ln to).M0 (y.next y.ln to).M1 (y.next y.ln to).M2 0 (y.next y.ln to).ln.toNat) = (y.next y.ln to).at (y.next y.ln to).ln := by
 have hl := loose_end (okRun_pre h).2.2.1
 have h0 := okRun_ln0 h
 have hu : 0 <= y.ln /\ y.ln <= y.ln := ⟨h0, Int.le_refl _⟩
 have hn := okRun_next h hu hl ht
 have hn0 := okRun_ln0 hn
 obtain ⟨m0, m1, m2, mp⟩ := next_M h hu hl ht
 have e : (y.next y.ln to).at 0 = y.at y.ln := by
  unfold RunS.at
  rw [m0, m1, m2]
  unfold RunS.N0 RunS.N1 RunS.N2
  rw [mp]; rfl
 refine ⟨hn, e, ?_⟩
 have p := pall_plN hn (Int.le_refl 0) (y.next y.ln to).ln.toNat (by omega)
 rw [e, show (0 : Int) + (((y.next y.ln to).ln.toNat : Nat) : Int) = (y.next y.ln to).ln by omega] at p
 exact p
theorem tab_end {y : RunS} (h : okRun y) : (y.at y.ln).t0 = nomi y.a.st y.a.og y.a.sg y.a.pit y.s0 y.sg 0 y.t /\ (y.at y.ln).t1 = nomi y.b.st y.b.og y.b.sg y.b.pit y.s1 y.sg 1 y.t /\ (y.at y.ln).t2 = nomi y.c.st y.c.og y.c.sg y.c.pit y.s2 y.sg 2 y.t := by
 have e := run_end h
 show y.N0 y.ln = _ /\ y.N1 y.ln = _ /\ y.N2 y.ln = _
 unfold RunS.N0 RunS.N1 RunS.N2
 rw [e]; exact ⟨rfl, rfl, rfl⟩
theorem loopRet : ∀ v Q, (LRet v).wp Q -> hloop CRet anRet (nthLoop Tryz.f8 0) v Q := by
 intro v Q h
 unfold LRet at h
 split at h
 case h_2 => exact h.elim
 rename_i n a b i rb rt m0 m1 m2 t0 t1 t2 h0 h1 h2
 obtain ⟨⟨k1, hn8, x, y0, k2, k3, hy0, ha, hb, hta, hat, g0, g1, g2⟩, hq⟩ := h
 subst k1 k2 k3
 have e7 : m0 = (y0.at y0.ln).m0 /\ m1 = (y0.at y0.ln).m1 /\ m2 = (y0.at y0.ln).m2 /\ t0 = (y0.at y0.ln).t0 /\ t1 = (y0.at y0.ln).t1 /\ t2 = (y0.at y0.ln).t2 := by rw [<- hat]; exact ⟨rfl, rfl, rfl, rfl, rfl, rfl⟩
 obtain ⟨rfl, rfl, rfl, rfl, rfl, rfl⟩ := e7
 have km : Int.tmod n 4 = n % 4 := Int.tmod_eq_emod_of_nonneg hn8.1
 refine hloop_rec (σ := Nat × RunS) (fun s => ([.ce (.int .u8 n), .ce (.ptr 1000011 0), .ce (.int .i64 a), .ce (.int .i64 b), .ce (.ptr 1000015 0), .ce (.ptr 1000016 0), .ce (.ptr 1000017 0), .ce (.int .i64 (s.1 : Int))], [runC x, tkC s.2, [.int .i64 (s.2.at s.2.ln).m0, .int .i64 (s.2.at s.2.ln).m1, .int .i64 (s.2.at s.2.ln).m2, .int .i64 (s.2.at s.2.ln).t0, .int .i64 (s.2.at s.2.ln).t1, .int .i64 (s.2.at s.2.ln).t2], [.int .i64 h0, .int .i64 h1, .int .i64 h2]]))
  (fun s => 4 - s.1) (fun s => (s.1 : Int) <= n % 4 /\ onP x s.2 /\ s.2.t = a /\ (s.2.at s.2.ln).t0 = h0 /\ (s.2.at s.2.ln).t1 = h1 /\ (s.2.at s.2.ln).t2 = h2) ?_ (0, y0) ⟨by show (0 : Int) <= n % 4; omega, hy0, hta, g0.symm, g1.symm, g2.symm⟩
 rintro ⟨k, y⟩ ⟨hk, hy, ht, w0, w1, w2⟩ K hn hxx _
 dsimp only at hk hy ht w0 w1 w2
 refine byVB (vbRet n a b k (y.at y.ln).m0 (y.at y.ln).m1 (y.at y.ln).m2 (y.at y.ln).t0 (y.at y.ln).t1 (y.at y.ln).t2 h0 h1 h2 y.ln y.f y.d0 y.d1 y.d2 y.pk x K) ⟨by decide, fun x1 e1 => ⟨by rw [e1, km]; omega, fun x2 e2 => ⟨fun g => ?_, fun g => hxx _ _ (hq ⟨y, y.at y.ln⟩ ⟨⟨x, rfl, hy⟩, rfl, w0, w1, w2⟩)⟩⟩⟩
 have g := of_decide_eq_true g
 rw [e2, e1, km] at g
 obtain ⟨hr, q0, q1, q2, qs, qm, qa, qb, qc⟩ := hy
 rw [<- q0, <- q1, <- q2, <- qs, <- qa, <- qb, <- qc]
 rw [<- qs] at ha hb
 have hp := okRun_pre hr
 have hb3 := okRun_b3 hr
 have hl0 := okRun_ln0 hr
 have hln : 0 <= y.ln /\ y.ln <= y.ln := ⟨hl0, Int.le_refl _⟩
 refine ⟨hp.2.2.1, fun x3 e3 x4 e4 x5 e5 => ⟨hp.2.2.1, fun x6 e6 => ?_⟩⟩
 rw [clamp_in hln] at e6
 have p6 := okRun_place hr hln
 rw [<- e6] at p6
 rw [clamp_in p6, clamp_in hb]
 refine ⟨⟨hp.1, hp.2.1, hb3⟩, ⟨_, rfl⟩, fun L1 eL1 => ?_⟩
 obtain ⟨hr1, at1, pa1⟩ := leg_at hr hb
 have hp1 := okRun_pre hr1
 have ln1 := okRun_ln hr1
 have l01 := okRun_ln0 hr1
 have hb1 := okRun_b3 hr1
 rw [e3, e4, e5, e6] at eL1
 subst eL1
 rw [e3, e4, e5, e6]
 have hu1 : 0 <= (y.next y.ln b).ln /\ (y.next y.ln b).ln <= (y.next y.ln b).ln := ⟨l01, Int.le_refl _⟩
 have c0 : clamp (y.next y.ln b).ln 0 = 0 := clamp_in ⟨Int.le_refl 0, l01⟩
 have c1 : clamp (y.next y.ln b).ln (y.next y.ln b).ln = (y.next y.ln b).ln := clamp_in hu1
 refine ⟨⟨hp1, ln1⟩, ⟨_, rfl⟩, fun l1 el1 => ?_⟩
 have el1 : l1 = plN (y.next y.ln b).M0 (y.next y.ln b).M1 (y.next y.ln b).M2 (clamp (y.next y.ln b).ln 0) (clamp (y.next y.ln b).ln (y.next y.ln b).ln - clamp (y.next y.ln b).ln 0).toNat := el1
 rw [c0, c1, Int.sub_zero] at el1
 have nl1 := plN_len (y.next y.ln b).M0 (y.next y.ln b).M1 (y.next y.ln b).M2 0 (y.next y.ln b).ln.toNat
 rw [<- el1] at nl1
 refine ⟨⟨⟨hb3.1, hb3.2.1, hb3.2.2⟩, at_small hr hln, by omega⟩, ⟨_, rfl⟩, fun s1 es1 => ?_⟩
 have es1 : s1 = (y.next y.ln b).at (y.next y.ln b).ln := by rw [es1, el1]; exact pa1
 subst es1
 refine ⟨hp1.2.2.1, fun x10 e10 x11 e11 x12 e12 => ⟨hp1.2.2.1, fun x13 e13 => ?_⟩⟩
 have e13 : x13 = tplace (y.next y.ln b).pk (y.next y.ln b).f (clamp (y.next y.ln b).ln (y.next y.ln b).ln) := e13
 rw [c1] at e13
 have p13 : 0 <= x13 /\ x13 <= plen y.sg := by rw [e13]; exact okRun_place hr1 hu1
 rw [clamp_in p13, clamp_in ha]
 refine ⟨⟨hp.1, hp.2.1, hb3⟩, ⟨_, rfl⟩, fun L2 eL2 => ?_⟩
 obtain ⟨hr2, at2, pa2⟩ := leg_at hr1 (to := a) ha
 have hp2 := okRun_pre hr2
 have ln2 := okRun_ln hr2
 have l02 := okRun_ln0 hr2
 rw [e10, e11, e12, e13] at eL2
 subst eL2
 rw [e10, e11, e12, e13]
 refine ⟨⟨hp2, ln2⟩, ⟨_, rfl⟩, fun l2 el2 => ?_⟩
 have el2 : l2 = plN ((y.next y.ln b).next (y.next y.ln b).ln a).M0 ((y.next y.ln b).next (y.next y.ln b).ln a).M1 ((y.next y.ln b).next (y.next y.ln b).ln a).M2 (clamp ((y.next y.ln b).next (y.next y.ln b).ln a).ln 0) (clamp ((y.next y.ln b).next (y.next y.ln b).ln a).ln ((y.next y.ln b).next (y.next y.ln b).ln a).ln - clamp ((y.next y.ln b).next (y.next y.ln b).ln a).ln 0).toNat := el2
 rw [clamp_in (⟨Int.le_refl 0, l02⟩), clamp_in (⟨l02, Int.le_refl _⟩), Int.sub_zero] at el2
 have nl2 := plN_len ((y.next y.ln b).next (y.next y.ln b).ln a).M0 ((y.next y.ln b).next (y.next y.ln b).ln a).M1 ((y.next y.ln b).next (y.next y.ln b).ln a).M2 0 ((y.next y.ln b).next (y.next y.ln b).ln a).ln.toNat
 rw [<- el2] at nl2
 refine ⟨⟨⟨hb3.1, hb3.2.1, hb3.2.2⟩, at_small hr1 hu1, by omega⟩, ⟨_, rfl⟩, fun s2 es2 => ⟨by omega, fun x17 e17 => ?_⟩⟩
 have es2 : s2 = ((y.next y.ln b).next (y.next y.ln b).ln a).at ((y.next y.ln b).next (y.next y.ln b).ln a).ln := by rw [es2, el2]; exact pa2
 obtain ⟨T0, T1, T2⟩ := tab_end hr2
 obtain ⟨S0, S1, S2⟩ := tab_end hr
 rw [e17, es2, show (k : Int) + 1 = ((k + 1 : Nat) : Int) by omega]
 exact hn (k + 1, (y.next y.ln b).next (y.next y.ln b).ln a) ⟨by show ((k + 1 : Nat) : Int) <= n % 4; omega, ⟨hr2, q0, q1, q2, qs, qm, qa, qb, qc⟩, rfl, by
  rw [<- w0, S0, ht]; exact T0, by rw [<- w1, S1, ht]; exact T1, by rw [<- w2, S2, ht]; exact T2⟩ (by dsimp only; omega)
theorem start_at {x : RunS} (hr : okRun x) (hf : x.f = 0) (h0 : x.d0 = 1) (h1 : x.d1 = 1) (h2 : x.d2 = 1) : x.at 0 = ⟨mot x.a.st x.a.og x.a.sg x.a.pit x.s0, mot x.b.st x.b.og x.b.sg x.b.pit x.s1, mot x.c.st x.c.og x.c.sg x.c.pit x.s2, mot x.a.st x.a.og x.a.sg x.a.pit x.s0, mot x.b.st x.b.og x.b.sg x.b.pit x.s1, mot x.c.st x.c.og x.c.sg x.c.pit x.s2⟩ := by
 obtain ⟨a0, a1, a2, L⟩ := okRun_leg hr
 have hl := okPath_len hr.1
 have hp := L.2.2.2.1
 rw [hf] at hp L
 obtain ⟨b0, b1, b2⟩ := L.2.2.2.2.2.2.1
 rw [h0] at b0
 rw [h1] at b1
 rw [h2] at b2
 have z : ∀ b : Int, bsh b 1 = 0 := fun b => by unfold bsh; rw [if_neg (by decide)]
 rw [z] at b0 b1 b2
 unfold RunS.at RunS.M0 RunS.M1 RunS.M2 RunS.N0 RunS.N1 RunS.N2
 rw [mtr_shf, mtr_shf, mtr_shf, hf, h0, h1, h2, b0, b1, b2, hp, ptAt_zero hl, ptAt_zero hl, ptAt_zero hl]
 unfold nomi
 rw [ptAt_zero hl, ptAt_zero hl, ptAt_zero hl]
 simp
def firstR (x : RunS) (to : Int) : RunS := { x with d0 := 1, d1 := 1, d2 := 1, f := 0, t := to, pk := (leg x.s0 x.s1 x.s2 x.sg x.a.bl x.b.bl x.c.bl 1 1 1 0 to).pk, ln := (leg x.s0 x.s1 x.s2 x.sg x.a.bl x.b.bl x.c.bl 1 1 1 0 to).ln }
theorem firstR_ok {x : RunS} (h : okRun x) {to : Int} (ht : 0 <= to /\ to <= plen x.sg) : okRun (firstR x to) := by
 obtain ⟨h1, h2, h3, h4, _, h6, _⟩ := h
 have p : pm 1 := by unfold pm; omega
 exact ⟨h1, h2, h3, h4, ⟨p, p, p⟩, ⟨Int.le_refl _, by show (0 : Int) <= plen x.sg; omega⟩, ht, rfl, rfl⟩
theorem sRet : Sound Tryz.prog 8 SRet := by
 refine sound_of (C := CRet) tabRet Tryz.func8 (by kernel_rfl) (by decide +kernel) (by kernel_rfl) rfl ⟨sAw40, sTrack, sPLen, sMod, sLegP, sFin, sPStart, sBtw, sPStep, sMotors, sPlace, trivial⟩ (loopsK [nthLoop Tryz.f8 0] [] (by kernel_rfl) (by kernel_rfl) ⟨loopOK_of (an := anRet) (S := LRet) (by kernel_rfl) loopRet, trivial⟩ trivial) ?_
 intro hA pA R h
 unfold SRet at h
 split at h
 case h_2 => exfalso; exact h
 rename_i l ax fr to n
 obtain ⟨⟨hl, hax, hn8⟩, hq⟩ := h
 refine byVC (vcRet l ax fr to n R) ⟨trivial, ⟨true, rfl⟩, fun w ew => ⟨fun g => (by rw [ew] at g; cases g), fun _ => ⟨⟨by decide, rfl, hl, hax⟩, okTr_ex, fun x hx => ?_⟩⟩⟩
 have hr := hx.1
 have hp := okRun_pre hr
 have hb3 := okRun_b3 hr
 have pl := plen_le hp.1
 refine ⟨hp.1, fun x3 e3 => ⟨by omega, fun x4 e4 => ⟨by omega, fun x5 e5 => ⟨by omega, fun x6 e6 => ⟨by omega, fun x7 e7 => ?_⟩⟩⟩⟩⟩
 have b5 := emod_bd (a := fr) (n := x4) (by omega)
 have b7 := emod_bd (a := to) (n := x6) (by omega)
 have ha : 0 <= x5 /\ x5 <= plen x.sg := by omega
 have hb : 0 <= x7 /\ x7 <= plen x.sg := by omega
 rw [clamp_in ha, clamp_in (show 0 <= (0 : Int) /\ (0 : Int) <= plen x.sg by omega)]
 refine ⟨⟨hp.1, hp.2.1, hb3⟩, ⟨_, rfl⟩, fun L eL => ?_⟩
 subst eL
 have hy := firstR_ok hr ha
 have py := okRun_pre hy
 have ly := okRun_ln hy
 have l0 := okRun_ln0 hy
 have s := hp.2.1
 refine ⟨⟨⟨hp.2.2.2.1.1, hp.2.2.2.1.2.1, ?_⟩, ⟨hp.2.2.2.2.1.1, hp.2.2.2.2.1.2.1, ?_⟩, ⟨hp.2.2.2.2.2.1.1, hp.2.2.2.2.2.1.2.1, ?_⟩⟩, fun x9 e9 x10 e10 x11 e11 x12 e12 x13 e13 x14 e14 => ⟨⟨py, ly⟩, ⟨_, rfl⟩, fun q eq => ?_⟩⟩
 . have := s.1; omega
 . have := s.2.1; omega
 . have := s.2.2.1; omega
 have eq : q = plN (firstR x x5).M0 (firstR x x5).M1 (firstR x x5).M2 (clamp (firstR x x5).ln 0) (clamp (firstR x x5).ln (firstR x x5).ln - clamp (firstR x x5).ln 0).toNat := eq
 rw [clamp_in (⟨Int.le_refl 0, l0⟩), clamp_in (⟨l0, Int.le_refl _⟩), Int.sub_zero] at eq
 have nl := plN_len (firstR x x5).M0 (firstR x x5).M1 (firstR x x5).M2 0 (firstR x x5).ln.toNat
 rw [<- eq] at nl
 have st := start_at hy rfl rfl rfl rfl
 have st : (⟨x9, x10, x11, x12, x13, x14⟩ : PS) = (firstR x x5).at 0 := by rw [st, e9, e10, e11, e12, e13, e14]; rfl
 rw [st]
 have pa := pall_plN hy (Int.le_refl 0) (firstR x x5).ln.toNat (by omega)
 rw [show (0 : Int) + (((firstR x x5).ln.toNat : Nat) : Int) = (firstR x x5).ln by omega, <- eq] at pa
 refine ⟨⟨⟨hb3.1, hb3.2.1, hb3.2.2⟩, at_small hy ⟨Int.le_refl _, l0⟩, by omega⟩, ⟨_, rfl⟩, fun s1 es1 => ?_⟩
 have es1 : s1 = (firstR x x5).at (firstR x x5).ln := es1.trans pa
 subst es1
 refine ⟨⟨rfl, hn8, x, firstR x x5, rfl, rfl, ⟨hy, rfl, rfl, rfl, rfl, rfl, rfl, rfl, rfl⟩, ha, hb, rfl, rfl, rfl, rfl, rfl⟩, fun z hz => ?_⟩
 obtain ⟨⟨x', ex, hz1⟩, hz2, z0, z1, z2⟩ := hz
 refine ⟨fun _ => ?_, fun g => ?_⟩
 . have ei := runC_inj ex
   obtain ⟨hzr, q0, q1, q2, qs, qm, qa, qb, qc⟩ := hz1
   have pz := okRun_pre hzr
   have lz := okRun_ln0 hzr
   have f0 : z.y.s0 = x.s0 /\ z.y.s1 = x.s1 /\ z.y.s2 = x.s2 /\ z.y.sg = x.sg /\ z.y.a = x.a /\ z.y.b = x.b /\ z.y.c = x.c := by
    rw [q0, q1, q2, qs, qa, qb, qc, ei]; exact ⟨rfl, rfl, rfl, rfl, rfl, rfl, rfl⟩
   obtain ⟨f0, f1, f2, f3, f4, f5, f6⟩ := f0
   rw [<- f0, <- f1, <- f2, <- f3, <- f4, <- f5, <- f6]
   refine ⟨pz, fun x18 e18 x19 e19 x20 e20 => ?_⟩
   rw [clamp_in ⟨lz, Int.le_refl _⟩] at e18 e19 e20
   have g18 : x18 = z.p.m0 := by rw [e18, hz2]; rfl
   have g19 : x19 = z.p.m1 := by rw [e19, hz2]; rfl
   have g20 : x20 = z.p.m2 := by rw [e20, hz2]; rfl
   rw [g18, g19, g20]
   have v3 : (z.p.m0 == z.p.m0 && (z.p.m1 == z.p.m1 && (z.p.m2 == z.p.m2 && true))) = true := by simp
   rw [v3]; exact hq
 . rw [z0, z1, z2] at g; simp at g
end
end Go.Proofs.YtneingpnkdeooaaGreat
