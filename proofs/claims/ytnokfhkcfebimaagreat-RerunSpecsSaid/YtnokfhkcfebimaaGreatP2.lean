/- Contracts of the functions that these laws reach: part 2: Plain laws of the steps of the schoolbook methods on limbs; Plain laws of greatest common divisors; Slices of limbs in the model's memory; Contracts: limbs.Trim; Contracts: limbs.Of, limbs.Compare; Rows of limbs of the call's own: make, append, store. -/
import Derived.Test.YtnokfhkcfebimaaGreatP1
import Derived.Test.YtnokfhkcfebimaaGreatProg
set_option linter.unusedVariables false
set_option linter.unusedSimpArgs false

/- Plain laws of the steps of the schoolbook methods on limbs. -/
namespace Go.Proofs.YtnokfhkcfebimaaGreat

theorem lv_take_succ' (l : List Nat) (k : Nat) : lv (l.take (k + 1)) = lv (l.take k) + 4294967296 ^ k * (l[k]?.getD 0) := by
  by_cases hk : k < l.length
  · rw [lv_take_succ (List.getElem?_eq_getElem hk), List.getElem?_eq_getElem hk]; rfl
  · rw [List.getElem?_eq_none (by omega), List.take_of_length_le (by omega), List.take_of_length_le (by omega)]
    simp
theorem pow_succ_mul (k c : Nat) : 4294967296 ^ (k + 1) * c = 4294967296 ^ k * (4294967296 * c) := by rw [Nat.pow_succ, Nat.mul_assoc]
theorem pow_pos' (k : Nat) : 0 < 4294967296 ^ k := Nat.pow_pos (by omega)

/-- A round of an addition: out gets the low limb of s, the rest is carried. -/
theorem add_step {o a b : List Nat} {k c s : Nat} (ho : o.length = k) (h : lv o + 4294967296 ^ k * c = lv (a.take k) + lv (b.take k)) (hs : s = a[k]?.getD 0 + c + b[k]?.getD 0) :
    lv (o ++ [s % 4294967296]) + 4294967296 ^ (k + 1) * (s / 4294967296) = lv (a.take (k + 1)) + lv (b.take (k + 1)) := by
  rw [lv_snoc, ho, lv_take_succ', lv_take_succ', pow_succ_mul, Nat.add_assoc, ← Nat.mul_add]
  have e : s % 4294967296 + 4294967296 * (s / 4294967296) = s := by omega
  rw [e, hs, Nat.mul_add, Nat.mul_add]
  omega
/-- A round of a subtraction. -/
theorem sub_step {o a b : List Nat} {k w d w' : Nat} (ho : o.length = k) (h : lv o + lv (b.take k) = lv (a.take k) + 4294967296 ^ k * w)
    (hd : d + w + b[k]?.getD 0 = a[k]?.getD 0 + 4294967296 * w') : lv (o ++ [d]) + lv (b.take (k + 1)) = lv (a.take (k + 1)) + 4294967296 ^ (k + 1) * w' := by
  rw [lv_snoc, ho, lv_take_succ', lv_take_succ', pow_succ_mul]
  have e : 4294967296 ^ k * (d + w + b[k]?.getD 0) = 4294967296 ^ k * (a[k]?.getD 0 + 4294967296 * w') := by rw [hd]
  rw [Nat.mul_add, Nat.mul_add, Nat.mul_add] at e
  omega
theorem sub_end {o a b : List Nat} {n w : Nat} (hb : okL o) (ho : o.length = n) (h : lv o + lv b = lv a + 4294967296 ^ n * w) (hba : lv b ≤ lv a) : lv o = lv a - lv b := by
  have h1 := lv_lt hb
  rw [ho] at h1
  have : w = 0 := by
    rcases Nat.eq_zero_or_pos w with h0 | h0
    · exact h0
    · have : 4294967296 ^ n * 1 ≤ 4294967296 ^ n * w := Nat.mul_le_mul_left _ h0
      omega
  subst this
  omega

/-- The value when position p is set from x to y. -/
theorem lv_set' {l : List Nat} {p y : Nat} (hp : p < l.length) : lv (l.set p y) + 4294967296 ^ p * (l[p]?.getD 0) = lv l + 4294967296 ^ p * y := by
  rw [List.getElem?_eq_getElem hp]
  exact lv_set (List.getElem?_eq_getElem hp)
/-- A round of the inner loop of a multiplication: s = x * y + the old limb + c. -/
theorem mul_step {o0 o b : List Nat} {i k c x s : Nat} (hp : i + k < o.length) (h : lv o + 4294967296 ^ (i + k) * c = lv o0 + 4294967296 ^ i * (x * lv (b.take k)))
    (hs : s = x * b[k]?.getD 0 + o[i + k]?.getD 0 + c) : lv (o.set (i + k) (s % 4294967296)) + 4294967296 ^ (i + (k + 1)) * (s / 4294967296) = lv o0 + 4294967296 ^ i * (x * lv (b.take (k + 1))) := by
  have h1 := lv_set' (y := s % 4294967296) hp
  rw [← Nat.add_assoc, pow_succ_mul, lv_take_succ', Nat.mul_add x, Nat.mul_add]
  have e2 : 4294967296 ^ i * (x * (4294967296 ^ k * b[k]?.getD 0)) = 4294967296 ^ (i + k) * (x * b[k]?.getD 0) := by
    rw [Nat.pow_add, Nat.mul_assoc, ← Nat.mul_assoc x, Nat.mul_comm x, Nat.mul_assoc]
  rw [e2]
  have e3 : 4294967296 ^ (i + k) * (s % 4294967296 + 4294967296 * (s / 4294967296)) = 4294967296 ^ (i + k) * (x * b[k]?.getD 0 + o[i + k]?.getD 0 + c) := by
    rw [← hs]; congr 1; omega
  rw [Nat.mul_add, Nat.mul_add, Nat.mul_add] at e3
  omega
theorem mul_lt {x y z c : Nat} (hx : x < 4294967296) (hy : y < 4294967296) (hz : z < 4294967296) (hc : c < 4294967296) : x * y + z + c < 18446744073709551616 := by
  have : x * y ≤ 4294967295 * 4294967295 := Nat.mul_le_mul (by omega) (by omega)
  omega
/-- The last limb of a row is laid. -/
theorem mul_last {o0 o b : List Nat} {i c x : Nat} (hp : i + b.length < o.length) (h : lv o + 4294967296 ^ (i + b.length) * c = lv o0 + 4294967296 ^ i * (x * lv b)) (hz : o[i + b.length]?.getD 0 = 0) :
    lv (o.set (i + b.length) c) = lv o0 + 4294967296 ^ i * (x * lv b) := by
  have h1 := lv_set' (y := c) hp
  rw [hz] at h1
  omega
theorem mul_row {a b : List Nat} {i : Nat} : lv (a.take i) * lv b + 4294967296 ^ i * (a[i]?.getD 0 * lv b) = lv (a.take (i + 1)) * lv b := by
  rw [lv_take_succ', Nat.add_mul, Nat.mul_assoc]

/-- A round of a division by a limb, from the top down. -/
theorem small_step {a o : List Nat} {i r d x s : Nat} (hl : a.length = o.length) (hi : i < a.length) (hx : a[i]? = some x) (h : lv (a.drop (i + 1)) = lv (o.drop (i + 1)) * d + r) (hs : s = r * 4294967296 + x) :
    lv (a.drop i) = lv ((o.set i (s / d)).drop i) * d + s % d := by
  have h1 : (o.set i (s / d))[i]? = some (s / d) := by rw [List.getElem?_set_self (by omega)]
  rw [lv_drop hx, lv_drop h1, List.drop_set_of_lt (by omega), h]
  have e : s / d * d + s % d = s := by rw [Nat.mul_comm]; exact Nat.div_add_mod s d
  rw [Nat.add_mul, Nat.mul_add]
  rw [Nat.mul_assoc]
  omega
theorem small_lt {r d x s : Nat} (hr : r < d) (hx : x < 4294967296) (hs : s = r * 4294967296 + x) : s / d < 4294967296 := by
  rw [Nat.div_lt_iff_lt_mul (by omega)]
  have : (r + 1) * 4294967296 ≤ d * 4294967296 := Nat.mul_le_mul_right _ hr
  rw [Nat.add_mul] at this
  rw [Nat.mul_comm 4294967296 d]
  omega

/-- A round of a shift to the left. -/
theorem shl_step {a o : List Nat} {k c x s m : Nat} (ho : o.length = k) (hx : a[k]? = some x) (h : lv o + 4294967296 ^ k * c = lv (a.take k) * m) (hs : s = x * m + c) :
    lv (o ++ [s % 4294967296]) + 4294967296 ^ (k + 1) * (s / 4294967296) = lv (a.take (k + 1)) * m := by
  rw [lv_snoc, ho, lv_take_succ hx, pow_succ_mul, Nat.add_assoc, ← Nat.mul_add]
  have e : s % 4294967296 + 4294967296 * (s / 4294967296) = s := by omega
  rw [e, hs, Nat.mul_add, Nat.add_mul, Nat.mul_assoc]
  omega
/-- A round of a shift to the right. -/
theorem shr_dig {x y Y n : Nat} (hn : n ≤ 32) (hx : x < 4294967296) (hy : Y % 4294967296 = y) :
    (x + 4294967296 * Y) / 2 ^ n = (x + 4294967296 * y) / 2 ^ n % 4294967296 + 4294967296 * (Y / 2 ^ n) := by
  have hB : 4294967296 = 2 ^ n * 2 ^ (32 - n) := by rw [← Nat.pow_add, show n + (32 - n) = 32 by omega]
  have e1 : (x + 4294967296 * Y) / 2 ^ n = x / 2 ^ n + 2 ^ (32 - n) * Y := by
    conv => lhs; rw [hB, Nat.mul_assoc]
    rw [Nat.add_mul_div_left _ _ (Nat.pow_pos (by omega))]
  have e2 : (x + 4294967296 * y) / 2 ^ n = x / 2 ^ n + 2 ^ (32 - n) * y := by
    conv => lhs; rw [hB, Nat.mul_assoc]
    rw [Nat.add_mul_div_left _ _ (Nat.pow_pos (by omega))]
  rw [e1, e2]
  have hd : x / 2 ^ n < 2 ^ (32 - n) := by
    rw [Nat.div_lt_iff_lt_mul (Nat.pow_pos (by omega)), Nat.mul_comm, ← hB]; exact hx
  have hP : 0 < 2 ^ n := Nat.pow_pos (by omega)
  generalize hD : x / 2 ^ n = D at *
  generalize hR : 2 ^ (32 - n) = R at *
  generalize hPP : 2 ^ n = P at *
  -- Y = P * Q + S ; y ≡ Y
  have hQ : Y = P * (Y / P) + Y % P := (Nat.div_add_mod Y P).symm
  have hS : Y % P < P := Nat.mod_lt _ hP
  generalize Y / P = Q at *
  generalize Y % P = S at *
  have hyS : y % P = S := by
    rw [← hy, hB, Nat.mod_mul_right_mod, hQ, Nat.mul_add_mod, Nat.mod_eq_of_lt hS]
  have hyQ : y = P * (y / P) + S := by rw [← hyS]; exact (Nat.div_add_mod y P).symm
  generalize y / P = T at *
  rw [hQ, hyQ, Nat.mul_add, Nat.mul_add, ← Nat.mul_assoc, ← Nat.mul_assoc, Nat.mul_comm R P, ← hB]
  have hlt : D + R * S < 4294967296 := by
    have : R * (S + 1) ≤ R * P := Nat.mul_le_mul_left _ hS
    rw [Nat.mul_add, Nat.mul_comm R P, ← hB] at this
    omega
  omega
theorem shr_step {a o : List Nat} {k x n d V : Nat} (ho : o.length = k) (hn : n ≤ 32) (ha : okL a) (hx : a[k]? = some x) (hd : d = (x + 4294967296 * a[k + 1]?.getD 0) / 2 ^ n % 4294967296)
    (h : lv o + 4294967296 ^ k * (lv (a.drop k) / 2 ^ n) = V) : lv (o ++ [d]) + 4294967296 ^ (k + 1) * (lv (a.drop (k + 1)) / 2 ^ n) = V := by
  have hxl := ha.get hx
  have hy : lv (a.drop (k + 1)) % 4294967296 = a[k + 1]?.getD 0 := by
    by_cases hk : k + 1 < a.length
    · rw [lv_drop (List.getElem?_eq_getElem hk), List.getElem?_eq_getElem hk]
      have := ha.get (List.getElem?_eq_getElem hk)
      show _ = a[k+1]
      omega
    · rw [List.drop_eq_nil_of_le (by omega), List.getElem?_eq_none (by omega)]; rfl
  rw [← h, lv_snoc, ho, lv_drop hx, shr_dig hn hxl hy, ← hd, pow_succ_mul, Nat.mul_add]
  omega

/-- The trial digit: v1 and v2 are the highest limbs of V, t the two highest limbs of U, u2 the next one. -/
theorem guess_ge {U V t v1 v2 u2 W v' u' : Nat} (hW : 0 < W) (hV : V = (v1 * 4294967296 + v2) * W + v') (hU : U = (t * 4294967296 + u2) * W + u') (hu : u' < W) (hu2 : u2 < 4294967296) (hv1 : 0 < v1) : U / V ≤ t / v1 := by
  have hVp : 0 < V := by
    have : 1 * 4294967296 ≤ v1 * 4294967296 := Nat.mul_le_mul_right _ hv1
    have : 0 < (v1 * 4294967296 + v2) * W := Nat.mul_pos (by omega) hW
    omega
  rw [Nat.le_div_iff_mul_le hv1]
  have h1 : U / V * V ≤ U := Nat.div_mul_le_self U V
  generalize U / V = Q at *
  have h2 : Q * (v1 * 4294967296 * W) ≤ Q * V := Nat.mul_le_mul_left _ (by rw [hV, Nat.add_mul]; omega)
  have h3 : U < (t + 1) * 4294967296 * W := by
    have : (t * 4294967296 + u2 + 1) * W ≤ (t + 1) * 4294967296 * W := Nat.mul_le_mul_right _ (by omega)
    rw [Nat.add_mul _ 1] at this
    omega
  have h4 : Q * v1 * (4294967296 * W) < (t + 1) * (4294967296 * W) := by
    rw [Nat.mul_assoc, ← Nat.mul_assoc v1, ← Nat.mul_assoc (t + 1)]
    omega
  have := Nat.lt_of_mul_lt_mul_right h4
  omega
theorem guess_dec {U V t v1 v2 u2 W v' u' q r : Nat} (hV : V = (v1 * 4294967296 + v2) * W + v') (hU : U = (t * 4294967296 + u2) * W + u') (hu : u' < W) (hr : q * v1 + r = t) (hlt : r * 4294967296 + u2 < q * v2) (hVp : 0 < V) : U / V < q := by
  rw [Nat.div_lt_iff_lt_mul hVp]
  have h1 : t * 4294967296 + u2 + 1 ≤ q * (v1 * 4294967296 + v2) := by
    rw [Nat.mul_add, ← Nat.mul_assoc]
    have : (q * v1 + r) * 4294967296 = t * 4294967296 := by rw [hr]
    rw [Nat.add_mul] at this
    omega
  have h2 : (t * 4294967296 + u2 + 1) * W ≤ q * (v1 * 4294967296 + v2) * W := Nat.mul_le_mul_right _ h1
  rw [Nat.add_mul _ 1] at h2
  rw [hV, Nat.mul_add, ← Nat.mul_assoc]
  omega
theorem guess_le {U V t v1 v2 u2 W v' u' q r : Nat} (hV : V = (v1 * 4294967296 + v2) * W + v') (hU : U = (t * 4294967296 + u2) * W + u') (hr : q * v1 + r = t) (hle : q * v2 ≤ r * 4294967296 + u2) (hv : v' < W) (hq : q < 4294967296) (hv1 : 0 < v1) : q ≤ U / V + 1 := by
  have hW : 0 < W := by omega
  have hVp : 0 < V := by
    have : 1 * 4294967296 ≤ v1 * 4294967296 := Nat.mul_le_mul_right _ hv1
    have : 0 < (v1 * 4294967296 + v2) * W := Nat.mul_pos (by omega) hW
    omega
  rcases Nat.eq_zero_or_pos q with h0 | h0
  · subst h0; exact Nat.zero_le _
  · have : q - 1 ≤ U / V := by
      rw [Nat.le_div_iff_mul_le hVp, Nat.sub_mul, Nat.one_mul]
      have h1 : q * (v1 * 4294967296 + v2) ≤ t * 4294967296 + u2 := by
        rw [Nat.mul_add, ← Nat.mul_assoc]
        have : (q * v1 + r) * 4294967296 = t * 4294967296 := by rw [hr]
        rw [Nat.add_mul] at this
        omega
      have h2 : q * (v1 * 4294967296 + v2) * W ≤ (t * 4294967296 + u2) * W := Nat.mul_le_mul_right _ h1
      have h3 : q * v' ≤ 4294967296 * W := Nat.mul_le_mul (by omega) (by omega)
      have h4 : 4294967296 * W ≤ V := by
        rw [hV]
        have : (1 * 4294967296) * W ≤ (v1 * 4294967296) * W := Nat.mul_le_mul_right _ (Nat.mul_le_mul_right _ hv1)
        rw [Nat.add_mul]
        omega
      have h5 : q * V = q * (v1 * 4294967296 + v2) * W + q * v' := by rw [hV, Nat.mul_add, ← Nat.mul_assoc]
      omega
    generalize U / V = Z at *
    omega

/-- A round of q times v off u: d is the new limb. -/
theorem red_step {n u v : List Nat} {i q c w d w' p x y : Nat} (hn : n.length = i) (hx : v[i]? = some x) (hy : u[i]? = some y) (h : lv n + q * lv (v.take i) = lv (u.take i) + 4294967296 ^ i * (c + w))
    (hp : p = q * x + c) (hd : d + w + p % 4294967296 = y + 4294967296 * w') : lv (n ++ [d]) + q * lv (v.take (i + 1)) = lv (u.take (i + 1)) + 4294967296 ^ (i + 1) * (p / 4294967296 + w') := by
  rw [lv_snoc, hn, lv_take_succ hx, lv_take_succ hy, pow_succ_mul, Nat.mul_add q]
  have e : q * (4294967296 ^ i * x) = 4294967296 ^ i * (q * x) := by rw [← Nat.mul_assoc, Nat.mul_comm q, Nat.mul_assoc]
  have e2 : 4294967296 ^ i * (d + (q * x) + w + c) = 4294967296 ^ i * (y + 4294967296 * (p / 4294967296 + w') ) := by congr 1; omega
  rw [Nat.mul_add, Nat.mul_add, Nat.mul_add, Nat.mul_add (4294967296 ^ i) y] at e2
  rw [Nat.mul_add] at h
  rw [e]
  omega

/-- The end of reduce: no borrow. -/
theorem red_no {n u v : List Nat} {m q c w y V U : Nat} (hnl : n.length = m) (hul : u.length = m + 1) (hv : v.length = m) (hy : u[m]? = some y) (hV : lv v = V) (hU : lv u = U) (h : lv n + q * lv (v.take m) = lv (u.take m) + 4294967296 ^ m * (c + w)) (hle : c + w ≤ y) :
    lv (n ++ [y - w - c]) + q * V = U := by
  have e1 : lv u = lv (u.take m) + 4294967296 ^ m * y := by rw [← lv_take_succ hy, List.take_of_length_le (by omega)]
  rw [lv_snoc, hnl]
  rw [List.take_of_length_le (by omega)] at h
  rw [← hU, ← hV, e1]
  have : 4294967296 ^ m * (y - w - c) + 4294967296 ^ m * (c + w) = 4294967296 ^ m * y := by rw [← Nat.mul_add]; congr 1; omega
  omega
/-- The digit is right if nothing was borrowed, one too much if something was. -/
theorem red_q {U V q R : Nat} (hV : 0 < V) (hle : U / V ≤ q) (h : R + q * V = U) : q = U / V ∧ R = U % V := by
  have h1 : q ≤ U / V := by rw [Nat.le_div_iff_mul_le hV]; omega
  have e : q = U / V := by omega
  refine ⟨e, ?_⟩
  have := Nat.div_add_mod U V
  rw [← e, Nat.mul_comm] at this
  omega
theorem red_lt {n u v : List Nat} {m q c w y V U : Nat} (hn : okL n) (hnl : n.length = m) (hul : u.length = m + 1) (hv : v.length = m) (hy : u[m]? = some y) (hV : lv v = V) (hU : lv u = U) (h : lv n + q * lv (v.take m) = lv (u.take m) + 4294967296 ^ m * (c + w)) (hlt : y < c + w) : U < q * V := by
  have e1 : lv u = lv (u.take m) + 4294967296 ^ m * y := by rw [← lv_take_succ hy, List.take_of_length_le (by omega)]
  rw [List.take_of_length_le (by omega)] at h
  rw [← hU, ← hV, e1]
  have h1 := lv_lt hn
  rw [hnl] at h1
  have h2 : 4294967296 ^ m * (y + 1) ≤ 4294967296 ^ m * (c + w) := Nat.mul_le_mul_left _ hlt
  rw [Nat.mul_add] at h2
  omega
/-- A round of adding v back. -/
theorem back_step {n r v : List Nat} {i c t x y : Nat} (hn : n.length = i) (hx : v[i]? = some x) (hy : r[i]? = some y) (h : lv n + 4294967296 ^ i * c = lv (r.take i) + lv (v.take i)) (ht : t = y + x + c) :
    lv (n ++ [t % 4294967296]) + 4294967296 ^ (i + 1) * (t / 4294967296) = lv (r.take (i + 1)) + lv (v.take (i + 1)) := by
  rw [lv_snoc, hn, lv_take_succ hx, lv_take_succ hy, pow_succ_mul]
  have e2 : 4294967296 ^ i * (t % 4294967296 + 4294967296 * (t / 4294967296)) = 4294967296 ^ i * (y + x + c) := by rw [← ht]; congr 1; omega
  rw [Nat.mul_add, Nat.mul_add, Nat.mul_add] at e2
  omega
/-- The end of adding back: z is the top limb with the carry, cut to a limb. -/
theorem back_end {n n' u v : List Nat} {m q c w c' y V U z : Nat} (hn : okL n) (hn' : okL n') (hnl : n.length = m) (hnl' : n'.length = m) (hul : u.length = m + 1) (hv : v.length = m) (hy : u[m]? = some y) (hV : lv v = V) (hU : lv u = U)
    (h : lv n + q * lv (v.take m) = lv (u.take m) + 4294967296 ^ m * (c + w)) (hb : lv n' + 4294967296 ^ m * c' = lv n + lv v) (hlt : y < c + w) (hz : z < 4294967296) (hzz : ∃ k, z + 4294967296 * k + c + w = y + c' + 4294967296) (hq : q ≤ U / V + 1) (hVp : 0 < V) (hVm : V < 4294967296 ^ m) :
    q = U / V + 1 ∧ lv (n' ++ [z]) = U % V := by
  have hlt' := red_lt hn hnl hul hv hy hV hU h hlt
  have e1 : lv u = lv (u.take m) + 4294967296 ^ m * y := by rw [← lv_take_succ hy, List.take_of_length_le (by omega)]
  rw [List.take_of_length_le (by omega)] at h
  have hq1 : U / V < q := by rw [Nat.div_lt_iff_lt_mul hVp]; exact hlt'
  have hqe : q = U / V + 1 := by generalize U / V = Z at *; omega
  refine ⟨hqe, ?_⟩
  have hdm := Nat.div_add_mod U V
  have hml := Nat.mod_lt U hVp
  rw [hqe, Nat.add_mul, Nat.one_mul, Nat.mul_comm (U / V) V] at hlt'
  have hqV : q * V = V * (U / V) + V := by rw [hqe, Nat.add_mul, Nat.one_mul, Nat.mul_comm]
  have hvl := lv_lt (l := n') hn'
  rw [hnl'] at hvl
  -- R = U % V; lv n' + B^m c' = lv n + V ; lv n + q V = lv utake + B^m (c+w)
  have hR : lv n' + 4294967296 ^ m * (c' + y) = U % V + 4294967296 ^ m * (c + w) := by
    rw [hV] at h hb
    rw [hU] at e1
    rw [hqV] at h
    rw [Nat.mul_add]
    omega
  obtain ⟨k, hk⟩ := hzz
  have hRV : U % V < 4294967296 ^ m := Nat.lt_trans hml hVm
  have hcy : c' + y = c + w := by
    rcases Nat.lt_trichotomy (c' + y) (c + w) with h1 | h1 | h1
    · have h3 : 4294967296 ^ m * (c' + y + 1) ≤ 4294967296 ^ m * (c + w) := Nat.mul_le_mul_left _ h1
      rw [Nat.mul_add _ (c' + y)] at h3
      omega
    · exact h1
    · have h3 : 4294967296 ^ m * (c + w + 1) ≤ 4294967296 ^ m * (c' + y) := Nat.mul_le_mul_left _ h1
      rw [Nat.mul_add _ (c + w)] at h3
      omega
  have hz0 : z = 0 := by omega
  rw [hcy] at hR
  rw [lv_snoc, hz0]
  omega

/-- A round of the long division, from the top down; S is the part of u that the round works on. -/
theorem div_step {U V T j : Nat} {q : List Nat} {d : Nat} (hj : j < q.length) (h : U = T + V * (4294967296 ^ (j + 1) * lv (q.drop (j + 1)))) (lo S : Nat) (hT : T = lo + 4294967296 ^ j * S) (hd : d = S / V) :
    U = lo + 4294967296 ^ j * (S % V) + V * (4294967296 ^ j * lv ((q.set j d).drop j)) := by
  have h1 : (q.set j d)[j]? = some d := by rw [List.getElem?_set_self (by omega)]
  rw [lv_drop h1, List.drop_set_of_lt (by omega), h, hT]
  have e := Nat.div_add_mod S V
  rw [← hd] at e
  have e2 : 4294967296 ^ j * (V * d + S % V) = 4294967296 ^ j * S := by rw [e]
  have e3 : V * (4294967296 ^ j * (d + 4294967296 * lv (q.drop (j + 1)))) = 4294967296 ^ j * (V * d) + V * (4294967296 ^ (j + 1) * lv (q.drop (j + 1))) := by
    rw [pow_succ_mul, Nat.mul_add, Nat.mul_add]
    congr 1
    rw [← Nat.mul_assoc, Nat.mul_comm V, Nat.mul_assoc]
  rw [e3]
  rw [Nat.mul_add] at e2
  omega
theorem drop_seg {u : List Nat} {j m : Nat} (hu : okL u) (h : lv (u.drop j) < 4294967296 ^ m) (hm : j + m ≤ u.length) : lv ((u.drop j).take m) = lv (u.drop j) := by
  have e := lv_take_drop (u.drop j) m (by rw [List.length_drop]; omega)
  rcases Nat.eq_zero_or_pos (lv ((u.drop j).drop m)) with h0 | h0
  · rw [h0] at e; omega
  · have : 4294967296 ^ m * 1 ≤ 4294967296 ^ m * lv ((u.drop j).drop m) := Nat.mul_le_mul_left _ h0
    omega
end Go.Proofs.YtnokfhkcfebimaaGreat

/- Plain laws of greatest common divisors. -/
namespace Go.Proofs.YtnokfhkcfebimaaGreat

theorem gcd_step (a b : Nat) : Nat.gcd b (a % b) = Nat.gcd a b := by rw [Nat.gcd_comm a b, Nat.gcd_rec b a, Nat.gcd_comm]
/-- A power of two is prime to an odd number. -/
theorem cop_two {y : Nat} (t : Nat) (hy : y % 2 = 1) : Nat.Coprime (2 ^ t) y := by
  refine Nat.Coprime.pow_left t ?_
  rw [Nat.coprime_iff_gcd_eq_one, Nat.gcd_rec, hy]
  rfl
theorem gcd_odd {x y t : Nat} (hy : y % 2 = 1) : Nat.gcd (2 ^ t * x) y = Nat.gcd x y := Nat.Coprime.gcd_mul_left_cancel x (cop_two t hy)
/-- The two numbers without their twos. -/
theorem gcd_twos {x y i k : Nat} (hx : x % 2 = 1) (hy : y % 2 = 1) : Nat.gcd (2 ^ i * x) (2 ^ k * y) = 2 ^ min i k * Nat.gcd x y := by
  rcases Nat.le_total i k with h | h
  · obtain ⟨d, rfl⟩ := Nat.exists_eq_add_of_le h
    rw [Nat.min_eq_left h, Nat.pow_add, Nat.mul_assoc, Nat.gcd_mul_left, Nat.gcd_comm x, gcd_odd hx, Nat.gcd_comm]
  · obtain ⟨d, rfl⟩ := Nat.exists_eq_add_of_le h
    rw [Nat.min_eq_right h, Nat.pow_add, Nat.mul_assoc, Nat.gcd_mul_left, gcd_odd hy]
theorem gcd_sub {x y : Nat} (h : y ≤ x) : Nat.gcd (x - y) y = Nat.gcd x y := by
  obtain ⟨d, rfl⟩ := Nat.exists_eq_add_of_le h
  rw [Nat.add_sub_cancel_left, Nat.gcd_add_left_left_of_dvd _ (Nat.dvd_refl y)]

/-- The highest limb. -/
theorem lm_top {y m : Nat} (h : (lm y).length = m) (hm : 0 < m) : ∃ t, (lm y)[m - 1]? = some t ∧ t ≠ 0 ∧ t < 4294967296 ∧ y < (t + 1) * 4294967296 ^ (m - 1) := by
  have hne : lm y ≠ [] := by intro e; rw [e] at h; simp at h; omega
  have hg := List.getElem?_eq_getElem (l := lm y) (i := m - 1) (by omega)
  refine ⟨_, hg, ?_, (okL_lm y).get hg, ?_⟩
  · have := lm_getLast hne
    rw [List.getLast_eq_getElem] at this
    simpa [h] using this
  · have e := lv_take_succ hg
    rw [List.take_of_length_le (by omega), lv_lm] at e
    have h1 := lv_lt ((okL_lm y).take (m - 1))
    rw [List.length_take, Nat.min_eq_left (by omega)] at h1
    generalize (lm y)[m - 1]'(by omega) = t at e ⊢
    rw [Nat.add_mul, Nat.mul_comm t]
    omega
/-- A shifted number has as many limbs. -/
theorem shl_len {y m s t : Nat} (h : (lm y).length = m) (hm : 0 < m) (ht : (lm y)[m - 1]? = some t) (hs : s ≤ 31) (hts : t * 2 ^ s < 4294967296) (hy : 0 < y) : (lm (y * 2 ^ s)).length = m := by
  obtain ⟨t', ht', -, -, hlt⟩ := lm_top h hm
  rw [ht] at ht'
  injection ht' with ht'
  subst ht'
  have h1 : (t + 1) * 2 ^ s ≤ 4294967296 := by
    have hB : 4294967296 = 2 ^ (32 - s) * 2 ^ s := by rw [← Nat.pow_add, show 32 - s + s = 32 by omega]
    rw [hB] at hts ⊢
    exact Nat.mul_le_mul_right _ (Nat.lt_of_mul_lt_mul_right hts)
  have h2 : y * 2 ^ s < 4294967296 ^ m := by
    have a1 : y * 2 ^ s < (t + 1) * 4294967296 ^ (m - 1) * 2 ^ s := Nat.mul_lt_mul_of_pos_right hlt (Nat.pow_pos (by omega))
    have a2 : (t + 1) * 4294967296 ^ (m - 1) * 2 ^ s = (t + 1) * 2 ^ s * 4294967296 ^ (m - 1) := Nat.mul_right_comm _ _ _
    have a3 : (t + 1) * 2 ^ s * 4294967296 ^ (m - 1) ≤ 4294967296 * 4294967296 ^ (m - 1) := Nat.mul_le_mul_right _ h1
    have a4 : 4294967296 ^ m = 4294967296 * 4294967296 ^ (m - 1) := by
      obtain ⟨k, rfl⟩ : ∃ k, m = k + 1 := ⟨m - 1, by omega⟩
      rw [Nat.pow_succ, Nat.add_sub_cancel, Nat.mul_comm]
    omega
  have h3 := lm_length_le.2 h2
  have h4 : (lm y).length ≤ (lm (y * 2 ^ s)).length := lm_length_mono (Nat.le_mul_of_pos_right _ (Nat.pow_pos (by omega)))
  omega
/-- The start of the long division. -/
theorem div_start {x y n m s : Nat} {us : List Nat} (hx : (lm x).length = n) (hy : (lm y).length = m) (hmn : m ≤ n) (hm : 0 < m) (hl : us.length = n + 1) (hu : lv us = x * 2 ^ s) : lv (us.drop (n - m + 1)) < y * 2 ^ s := by
  have e := lv_take_drop us (n - m + 1) (by omega)
  rcases Nat.lt_or_ge (lv (us.drop (n - m + 1))) (y * 2 ^ s) with h | h
  · exact h
  · exfalso
    have h1 : 4294967296 ^ (n - m + 1) * (y * 2 ^ s) ≤ 4294967296 ^ (n - m + 1) * lv (us.drop (n - m + 1)) := Nat.mul_le_mul_left _ h
    have h2 : 4294967296 ^ (m - 1) ≤ y := lm_length_lt.1 (by omega)
    have h3 : 4294967296 ^ (n - m + 1) * (4294967296 ^ (m - 1) * 2 ^ s) ≤ 4294967296 ^ (n - m + 1) * (y * 2 ^ s) := Nat.mul_le_mul_left _ (Nat.mul_le_mul_right _ h2)
    rw [← Nat.mul_assoc, ← Nat.pow_add, show n - m + 1 + (m - 1) = n by omega] at h3
    have h4 := lm_lt_pow x
    rw [hx] at h4
    have h5 : x * 2 ^ s < 4294967296 ^ n * 2 ^ s := Nat.mul_lt_mul_of_pos_right h4 (Nat.pow_pos (by omega))
    omega
end Go.Proofs.YtnokfhkcfebimaaGreat

/- Slices of limbs in the model's memory. -/
namespace Go.Proofs.YtnokfhkcfebimaaGreat
open Go.RowKit

def uv (x : Nat) : List Value := [.int .u32 (x : Int)]
theorem uv_len (x : Nat) : (uv x).length = 1 := rfl
theorem uv_one (x : Nat) : ∀ u ∈ uv x, u.oneCell' = true := by
  intro u hu
  simp [uv] at hu
  subst hu
  rfl
/-- The slice with the address A and the length n reads as the limbs l. -/
def Ul (w : World) (av : Option Nat) (A : Option Addr) (n : Nat) (l : List Nat) : Prop := Rs w av 1 uv A l ∧ l.length = n ∧ okL l

section
variable {w w' : World} {av : Option Nat} {A : Option Addr} {n : Nat} {l : List Nat}
theorem Ul.at (h : Ul w av A n l) {k : Nat} (hk : k < n) : ∃ b o x, A = some ⟨b, o, none⟩ ∧ some b ≠ av ∧ b < w.heap.size ∧ l[k]? = some x ∧ x < 4294967296 ∧ w.cell? ⟨b, o + k, none⟩ = some (.int .u32 (x : Int)) := by
  obtain ⟨hR, hl, ho⟩ := h
  have hg : l[k]? = some l[k] := List.getElem?_eq_getElem (by omega)
  obtain ⟨b, o, h1, h2, h3, h4⟩ := hR.at hg
  exact ⟨b, o, _, h1, h2, h3, hg, ho.get hg, by simpa using h4 0 _ rfl⟩
theorem Ul.fr (h : Ul w av A n l) {S : Nat → Prop} (hf : Fr w w' S) (hS : l ≠ [] → ∀ b o, A = some ⟨b, o, none⟩ → some b ≠ av → ¬ S b) : Ul w' av A n l :=
  ⟨h.1.fr hf (fun hl b o hA hb => hS hl b o hA hb), h.2⟩
theorem Ul.frF (h : Ul w av A n l) (hf : Fr w w' (fun _ => False)) : Ul w' av A n l := h.fr hf (fun _ _ _ _ _ h => h)
theorem Ul.below (h : Ul w av A n l) (hb : Below w.heap.size w w') : Ul w' av A n l := ⟨h.1.below hb, h.2⟩
theorem Ul.alloc (h : Ul w av A n l) (o : Obj) : Ul (w.alloc o) av A n l := ⟨h.1.alloc o, h.2⟩
theorem Ul.drew (h : Ul w av A n l) : Ul w.drew av A n l := h
theorem Ul.drewN (h : Ul w av A n l) (k : Nat) : Ul (w.drewN k) av A n l := h
theorem Ul.nil : Ul w av A 0 [] := ⟨Rs.nil, rfl, okL_nil⟩
theorem Ul.len (h : Ul w av A n l) : l.length = n := h.2.1
theorem Ul.ok (h : Ul w av A n l) : okL l := h.2.2
theorem Ul.weak (h : Ul w av A n l) : Ul w none A n l := ⟨h.1.weak, h.2⟩
/-- The first limbs. -/
theorem Ul.take (h : Ul w av A n l) {k : Nat} (hk : k ≤ n) : Ul w av A k (l.take k) := by
  refine ⟨fun hl => ?_, by rw [List.length_take, h.2.1]; omega, h.2.2.take k⟩
  obtain ⟨b, o, hA, hn, hb, hc⟩ := h.1 (by rintro rfl; simp at hl)
  refine ⟨b, o, hA, hn, hb, fun i a hi j u hu => hc i a ?_ j u hu⟩
  rw [List.getElem?_take] at hi
  split at hi
  · exact hi
  · simp at hi
theorem Ul.of_own {base : Nat} {e : TypeId} {c : Nat} (h : w.ownsRow base e 1 (.slice A n c) n (l.flatMap uv)) (hn : l.length = n) (ho : okL l) (hav : ∀ t, av = some t → t < base) : Ul w av A n l :=
  ⟨Rs.of_own h uv_len hn hav, hn, ho⟩
end

/-- Nothing but answers was drawn. -/
def Dr (w w' : World) : Prop := ∃ m, w' = w.drewN m
theorem Dr.refl (w : World) : Dr w w := ⟨0, rfl⟩
theorem Dr.trans {a b c : World} (h : Dr a b) (k : Dr b c) : Dr a c := by
  obtain ⟨m, rfl⟩ := h
  obtain ⟨n, rfl⟩ := k
  exact ⟨m + n, by rw [World.drewN_drewN]⟩
theorem Dr.drewN {a b : World} (h : Dr a b) (n : Nat) : Dr a (b.drewN n) := h.trans ⟨n, rfl⟩
theorem Dr.drew {a b : World} (h : Dr a b) : Dr a b.drew := h.trans ⟨1, rfl⟩
theorem Dr.fr {a b : World} (h : Dr a b) (S : Nat → Prop) : Fr a b S := by
  obtain ⟨m, rfl⟩ := h
  exact (Fr.refl a S).drewN m
theorem Dr.below {a b : World} (h : Dr a b) : Below a.heap.size a b := (h.fr (fun _ => False)).below (Nat.le_refl _) (fun _ _ h => h)
theorem Ul.dr {w w' : World} {av : Option Nat} {A : Option Addr} {n : Nat} {l : List Nat} (h : Ul w av A n l) (hd : Dr w w') : Ul w' av A n l := by
  obtain ⟨m, rfl⟩ := hd
  exact h.drewN m
theorem fr_below {a b : World} (h : Fr a b (fun _ => False)) : Below a.heap.size a b := h.below (Nat.le_refl _) (fun _ _ h => h)
end Go.Proofs.YtnokfhkcfebimaaGreat

/- Contracts: limbs.Trim. -/
namespace Go.Proofs.YtnokfhkcfebimaaGreat
open Go.RowKit

set_option maxHeartbeats 1000000 in
theorem trim_any (w : World) (av : Option Nat) (A : Option Addr) (n c : Nat) (l : List Nat) (hU : Ul w av A n l) (hc : n ≤ c) (hc63 : n ≤ 4294967296) :
    Calls Tryz.prog 138 #[.slice A n c] w fun e w' => ∃ m, e = .returned (.slice A m c) ∧ m ≤ n ∧ Ul w av A m (lm (lv l)) ∧ w' = w := by
  have HU := hide hU
  have HE := hide (show lv (l.take n) = lv l by rw [List.take_of_length_le (by have := hU.len; omega)])
  clear hU
  go_enter Tryz.func138, Tryz.ntmps138
  go_wp2
  go_loop [0] (fun v => ∃ k : Nat, k ≤ n ∧ v = .slice A k c ∧ Hid (lv (l.take k) = lv l)) (fun v => match v with | .slice _ k _ => k | _ => 0)
  case atStart => exact ⟨n, Nat.le_refl _, rfl, HE⟩
  case round =>
    obtain ⟨k, hk, rfl, HK⟩ := hrel
    by_cases hk0 : k = 0
    · subst hk0
      go_wp2
      go_ret
      have e : lm (lv l) = [] := by rw [← HK.out]; simp [lv, lm_zero]
      exact ⟨0, rfl, by omega, by rw [e]; exact Ul.nil, rfl⟩
    · obtain ⟨j, rfl⟩ : ∃ j, k = j + 1 := ⟨k - 1, by omega⟩
      obtain ⟨b, o, x, rfl, -, -, hx, hxl, hcell⟩ := HU.out.at (k := j) (by omega)
      have HX := hide hx
      clear hx
      have g1 : (0 : Int) ≤ (j : Int) := by omega
      have g2 : decide ((0 : Int) < (j : Int) + 1) = true := decide_eq_true (by omega)
      by_cases hx0 : x = 0
      · subst hx0
        go_wp2
        go_round
        case rel => exact ⟨j, by omega, rfl, hide ((lv_take_zero HX.out).symm.trans HK.out)⟩
        case measure => simp
      · have hxd : ((x : Int) == 0) = false := by simp; omega
        go_wp2
        go_ret
        have e := take_eq_lm HU.out.ok (by have := HU.out.len; omega) HK.out (.inr ⟨x, HX.out, hx0⟩)
        exact ⟨j + 1, rfl, by omega, by rw [← e]; exact HU.out.take (by omega), rfl⟩
end Go.Proofs.YtnokfhkcfebimaaGreat

/- Contracts: limbs.Of, limbs.Compare. -/
namespace Go.Proofs.YtnokfhkcfebimaaGreat
open Go.RowKit

theorem drop_cons {l : List Nat} {k x : Nat} (h : l[k]? = some x) : l.drop k = x :: l.drop (k + 1) := by
  have hk : k < l.length := (List.getElem?_eq_some_iff.1 h).1
  rw [List.drop_eq_getElem_cons hk, (List.getElem?_eq_some_iff.1 h).2]
theorem lv_two (n : Nat) : lv [n % 4294967296, n / 4294967296] = n := by simp [lv]; omega
theorem ul_two {w : World} (n : Nat) (hn : n < 18446744073709551616) : Ul (w.alloc (Obj.cells #[Value.int IntKind.u32 ((n : Int) % 4294967296), Value.int IntKind.u32 ((n : Int) / 4294967296)] 86)) none (some ⟨w.heap.size, 0, none⟩) 2 [n % 4294967296, n / 4294967296] := by
  refine ⟨fun _ => ⟨w.heap.size, 0, rfl, by simp, by simp, fun k a hk j u hu => ?_⟩, rfl, fun x hx => ?_⟩
  · have hj : j = 0 := by
      have := (List.getElem?_eq_some_iff.1 hu).1
      simp [uv] at this
      omega
    subst hj
    simp [uv] at hu
    subst hu
    rcases k with _ | _ | k
    · simp at hk; subst hk; simp [go_sem]
    · simp at hk; subst hk; simp [go_sem]
    · simp at hk
  · simp at hx; omega
set_option maxHeartbeats 1000000 in
theorem lof_any (w : World) (n : Nat) (hn : n < 18446744073709551616) :
    Calls Tryz.prog 107 #[.int .u64 (n : Int)] w fun e w' => ∃ A m c, e = .returned (.slice A m c) ∧ m ≤ c ∧ m ≤ 2 ∧ Ul w' none A m (lm n) ∧ Below w.heap.size w w' := by
  have HT := hide (ul_two (w := w) n hn)
  go_enter Tryz.func107, Tryz.ntmps107
  go_wp2_with (go_at_call 138; refine (trim_any _ none _ 2 2 _ HT.out (by omega) (by omega)).mono ?_; rintro e w' ⟨m, rfl, hm2, hu, rfl⟩; rw [lv_two] at hu)
  go_ret
  exact ⟨_, m, 2, by rfl, hm2, hm2, hu, (Below.refl _ _).alloc (Nat.le_refl _) _⟩
set_option maxHeartbeats 1000000 in
theorem lcmp_any (w : World) (av av' : Option Nat) (A : Option Addr) (n c : Nat) (A' : Option Addr) (n' c' : Nat) (x y : Nat) (hU : Ul w av A n (lm x)) (hV : Ul w av' A' n' (lm y)) (hn : n ≤ 4294967296) (hn' : n' ≤ 4294967296) :
    Calls Tryz.prog 102 #[.slice A n c, .slice A' n' c'] w fun e w' => e = .returned (.int .i64 (cmpN x y)) ∧ Dr w w' := by
  have HU := hide hU
  have HV := hide hV
  clear hU hV
  by_cases hne : n = n'
  · subst hne
    go_enter Tryz.func102, Tryz.ntmps102
    go_wp2
    go_loopw [5] (fun i wr => ∃ k : Nat, k ≤ n ∧ i = .int .i64 ((k : Int) - 1) ∧ Hid ((lm x).drop k = (lm y).drop k) ∧ Hid (Dr w wr)) (fun i _ => (intOf i + 1).toNat)
    case atStart => exact ⟨n, Nat.le_refl _, rfl, hide (by rw [List.drop_eq_nil_of_le (by have := HU.out.len; omega), List.drop_eq_nil_of_le (by have := HV.out.len; omega)]), hide (Dr.refl w)⟩
    case round =>
      obtain ⟨k, hk, rfl, HK, HD⟩ := hrel
      by_cases hk0 : k = 0
      · subst hk0
        go_wp2
        go_ret
        have e : x = y := lm_inj (by simpa using HK.out)
        exact ⟨by rw [e, cmpN_eq]; rfl, HD.out⟩
      · obtain ⟨j, rfl⟩ : ∃ j, k = j + 1 := ⟨k - 1, by omega⟩
        obtain ⟨b, o, p, rfl, -, -, hp, hpl, hcell⟩ := (HU.out.dr HD.out).at (k := j) (by omega)
        obtain ⟨b', o', q, rfl, -, -, hq, hql, hcell'⟩ := (HV.out.dr HD.out).at (k := j) (by omega)
        have HP := hide hp
        have HQ := hide hq
        clear hp hq
        have g1 : (0 : Int) ≤ (j : Int) := by omega
        have g2 : (j : Int) < (n : Int) := by omega
        rcases Nat.lt_trichotomy p q with hlt | heq | hlt
        · have h := lt_of_limb (okL_lm x) HP.out HQ.out HK.out hlt
          rw [lv_lm, lv_lm] at h
          have HC := hide (cmpN_lt h)
          clear h
          have d1 : ((p : Int) == (q : Int)) = false := by simp; omega
          have d2 : decide ((p : Int) < (q : Int)) = true := decide_eq_true (by omega)
          go_wp2
          go_quiet (fail)
          go_wp2
          go_quiet (fail)
          go_wp2
          go_ret
          exact ⟨by rw [HC.out]; rfl, (HD.out.drewN _).drewN _⟩
        · subst heq
          go_wp2
          go_quiet (fail)
          go_wp2
          go_roundw
          case rel => exact ⟨j, by omega, by go_num, hide (by rw [drop_cons HP.out, drop_cons HQ.out, HK.out]), hide (HD.out.drewN _)⟩
          case measure => simp [intOf] <;> omega
        · have h := lt_of_limb (okL_lm y) HQ.out HP.out HK.out.symm hlt
          rw [lv_lm, lv_lm] at h
          have HC := hide (cmpN_gt h)
          clear h
          have d1 : ((p : Int) == (q : Int)) = false := by simp; omega
          have d2 : decide ((p : Int) < (q : Int)) = false := decide_eq_false (by omega)
          go_wp2
          go_quiet (fail)
          go_wp2
          go_quiet (fail)
          go_wp2
          go_ret
          exact ⟨by rw [HC.out]; rfl, (HD.out.drewN _).drewN _⟩
  · by_cases hlt : n < n'
    · have h : x < y := lt_of_length (by rw [HU.out.len, HV.out.len]; exact hlt)
      go_enter Tryz.func102, Tryz.ntmps102
      go_wp2
      go_ret
      exact ⟨by rw [cmpN_lt h]; rfl, Dr.refl w⟩
    · have h : y < x := lt_of_length (by rw [HU.out.len, HV.out.len]; omega)
      go_enter Tryz.func102, Tryz.ntmps102
      go_wp2
      go_ret
      exact ⟨by rw [cmpN_gt h]; rfl, Dr.refl w⟩
end Go.Proofs.YtnokfhkcfebimaaGreat

/- Rows of limbs of the call's own: make, append, store. -/
namespace Go.Proofs.YtnokfhkcfebimaaGreat
open Go.RowKit

theorem info86 : (Tryz.prog.info? 86).map (fun i => (i.zero, i.size, i.bytes)) = some (some (.int .u32 0), 1, 4) := by kernel_rfl
/-- In w, which is w0 with new blocks, the slice is nil or lies in a new block, and reads as l. -/
structure OF (w0 w : World) (A : Option Addr) (m c : Nat) (l : List Nat) : Prop where
  own : w.ownsRow w0.heap.size 86 1 (.slice A m c) m (l.flatMap uv)
  len : l.length = m
  ok : okL l
  fr : Fr w0 w (fun _ => False)

theorem own_slice_cap {w : World} {B s m c : Nat} {e : TypeId} {A : Option Addr} {xs : List Value} (h : w.ownsRow B e s (.slice A m c) m xs) (hs : 0 < s) : m ≤ c := by
  rcases h.2 with ⟨h1, h2⟩ | ⟨g, cap, cur, h1, _, _, h3, _⟩
  · injection h1 with _ hm hc
    omega
  · injection h1 with _ _ h4
    omega
section
variable {w0 w w' : World} {A : Option Addr} {m c : Nat} {l : List Nat}
theorem OF.cap (h : OF w0 w A m c l) : m ≤ c := own_slice_cap h.own (by omega)
theorem OF.ul (h : OF w0 w A m c l) : Ul w none A m l := Ul.of_own h.own h.len h.ok (by simp)
theorem OF.nil (hf : Fr w0 w (fun _ => False)) : OF w0 w none 0 0 [] := ⟨World.ownsRow_nil _ _ _ _, rfl, okL_nil, hf⟩
theorem OF.drew (h : OF w0 w A m c l) : OF w0 w.drew A m c l := ⟨h.own, h.len, h.ok, h.fr.drew⟩
theorem OF.drewN (h : OF w0 w A m c l) (n : Nat) : OF w0 (w.drewN n) A m c l := ⟨h.own, h.len, h.ok, h.fr.drewN n⟩
theorem OF.below (h : OF w0 w A m c l) (hb : Below w.heap.size w w') : OF w0 w' A m c l := ⟨own_below h.own hb, h.len, h.ok, h.fr.below_ hb⟩
theorem OF.alloc (h : OF w0 w A m c l) (o : Obj) : OF w0 (w.alloc o) A m c l := h.below ((Below.refl _ _).alloc (Nat.le_refl _) o)
theorem OF.at (h : OF w0 w A m c l) {k : Nat} (hk : k < m) : ∃ g x, A = some ⟨g, 0, none⟩ ∧ w0.heap.size ≤ g ∧ g < w.heap.size ∧ l[k]? = some x ∧ x < 4294967296 ∧ w.cell? ⟨g, k, none⟩ = some (.int .u32 (x : Int)) ∧ (∀ j, w.frozen? ⟨g, j, none⟩ = false) := by
  obtain ⟨g, cap, hv, hb, hlt⟩ := h.own.form (by omega)
  have hA : A = some ⟨g, 0, none⟩ := by injection hv
  subst hA
  have hl : k < l.length := by have := h.len; omega
  have hg : l[k]? = some l[k] := List.getElem?_eq_getElem hl
  refine ⟨g, _, rfl, hb, hlt, hg, h.ok.get hg, ?_, fun j => h.own.frozenAt j⟩
  have := own_cells uv_len h.own hg 0 _ rfl
  simpa using this
theorem OF.put {g k x : Nat} (h : OF w0 w (some ⟨g, 0, none⟩) m c l) (hk : k < m) (hx : x < 4294967296) : OF w0 (w.setCell ⟨g, k, none⟩ (.int .u32 (x : Int))) (some ⟨g, 0, none⟩) m c (l.set k x) := by
  have hl : k < l.length := by have := h.len; omega
  have hg : l[k]? = some l[k] := List.getElem?_eq_getElem hl
  obtain ⟨g', _, hA, hb, _⟩ := h.at hk
  have hgg : g = g' := by simpa using hA
  subst hgg
  refine ⟨?_, by rw [List.length_set]; exact h.len, h.ok.set hx, Fr.setCell h.fr (Or.inl hb) _⟩
  have := own_put (t1 := x) (u := .int .u32 (x : Int)) (j := 0) uv_len (own_start h.own hg) hl (by omega) rfl
  simpa using this
end

theorem made_u32 (n c : Nat) (h : n ≤ c) : (madeCells (Value.int .u32 0).cells (c * 1)).toList.take (n * 1) = (List.replicate n 0).flatMap uv := by
  have e : (madeCells (Value.int .u32 0).cells (c * 1)).toList = List.replicate c (.int .u32 0) := by
    apply List.ext_getElem?
    intro i
    rw [Array.getElem?_toList]
    by_cases hi : i < c
    · rw [List.getElem?_replicate, if_pos hi, Array.getElem?_eq_getElem (by rw [size_madeCells]; omega)]
      simp [madeCells, Value.cells, Nat.mod_one]
    · rw [List.getElem?_replicate, if_neg hi, Array.getElem?_eq_none (by rw [size_madeCells]; omega)]
  rw [e, Nat.mul_one, List.take_replicate, Nat.min_eq_left h]
  clear e h
  induction n with
  | zero => rfl
  | succ n ih => rw [List.replicate_succ, List.replicate_succ, List.flatMap_cons, ← ih]; rfl

/-- 'make([]uint32, n, c)'. -/
theorem wl_make_u32 {w0 w : World} {ops : Array Oper} {rest : List Oper} {o : Oper} {a : Act} {Q : Exit → Act → World → Prop}
    (hg : o.guard = none) (l k : Operand) (t : TypeId) (ht : Tryz.prog.underlying t = some (.slice 86)) (hop : o.op = Op.makeSlice t l k)
    (n c : Nat) (N C : Int) (hl : a.eval l = .int .i64 N) (hc : a.eval k = .int .i64 C) (hN : N = (n : Int)) (hC : C = (c : Int)) (hnc : n ≤ c) (b3 : c ≤ 4294967296) (hf : Fr w0 w (fun _ => False))
    (hK : ∀ w', OF w0 w' (some ⟨w.heap.size, 0, none⟩) n c (List.replicate n 0) → w.heap.size < w'.heap.size → Below w.heap.size w w' → wpList Tryz.prog ops Q rest (a.put o.dst (.slice (some ⟨w.heap.size, 0, none⟩) n c)) w') :
    wpList Tryz.prog ops Q (o :: rest) a w := by
  refine wl_make w hg l k t hop w.heap.size 86 _ 1 4 ht info86 w.heap.size n c rfl N C hl hc hN hC hnc rfl (by omega) (by simp only [maxLen]; omega) (Nat.le_refl _) ?_
  intro w' ys hown hys hgr
  have hys' := hys.out
  rw [made_u32 n c hnc] at hys'
  subst hys'
  refine hK w' ⟨own_base hown hf.size, by simp, okL_replicate n, hf.below_ (below_of_grown hgr)⟩ ?_ (below_of_grown hgr)
  rcases hown.2 with ⟨h, _⟩ | ⟨g, cap, cur, hv, _, hh, _⟩
  · simp at h
  · have : w.heap.size = g := by
      simp only [Value.slice.injEq, Option.some.injEq, Addr.mk.injEq, and_true, true_and] at hv
      exact hv.1
    rcases Nat.lt_or_ge g w'.heap.size with hlt | hge
    · omega
    · rw [Array.getElem?_eq_none hge] at hh; cases hh

/-- 'append(out, x)'. -/
theorem wl_app_u32 {w0 w : World} {ops : Array Oper} {rest : List Oper} {o : Oper} {a : Act} {Q : Exit → Act → World → Prop} (hgd : o.guard = none) (s x : Operand) (t : TypeId) (ht : Tryz.prog.underlying t = some (.slice 86))
    (ho : o.op = .call { callee := .builtin .append, args := #[s, x], argTypes := #[t, t] })
    (A : Option Addr) (m c : Nat) (l : List Nat) (X : Nat) (xv : Int) (hxv : xv = (X : Int)) (hX : X < 4294967296) (hs : a.eval s = .slice A m c) (hx : a.eval x = .slice (some ⟨w.heap.size, 0, none⟩) 1 1) (hO : OF w0 w A m c l) (h63 : m + 1 ≤ 4294967296)
    (h : ∀ A' c' w', OF w0 w' A' (m + 1) c' (l ++ [X]) → wpList Tryz.prog ops Q rest (a.put o.dst (.slice A' (m + 1) c')) w') :
    wpList Tryz.prog ops Q (o :: rest) a (w.alloc (.cells #[.int .u32 xv] 86)) := by
  subst hxv
  have hO1 := hO.alloc (.cells #[.int .u32 (X : Int)] 86)
  refine wl_append _ hgd s x t ho w0.heap.size 86 _ 1 4 ht info86 rfl (by omega) (.slice A m c) m l hs hO1.own _ 1 1 [X] hx
    (rs_one (av := none) (by simp) (by simp) (by intro j u hu; match j with | 0 => simp [uv] at hu; subst hu; simp [go_sem] | j + 1 => simp [uv] at hu)) rfl uv_len uv_one h63 (by omega) hO1.fr.size ?_
  intro A' c' w' hown hgr _
  refine h A' c' w' ⟨hown, by simp [hO.len], hO.ok.append (by intro y hy; simp at hy; omega), hO1.fr.grown hgr ?_⟩
  intro g hg
  left
  rcases hO1.own.2 with ⟨h1, _⟩ | ⟨g', cap, cur, hv, hb, _⟩
  · rw [h1] at hg; simp [Value.ownBlock] at hg
  · rw [hv] at hg
    simp [Value.ownBlock] at hg
    omega
theorem OF.ulav {w0 w : World} {A : Option Addr} {m c : Nat} {l : List Nat} (h : OF w0 w A m c l) {av : Option Nat} (hav : ∀ t, av = some t → t < w0.heap.size) : Ul w av A m l := Ul.of_own h.own h.len h.ok hav
/-- A part of the row. -/
theorem OF.seg {w0 w : World} {g m c : Nat} {l : List Nat} (h : OF w0 w (some ⟨g, 0, none⟩) m c l) {j k : Nat} (hk : j + k ≤ m) : Ul w none (some ⟨g, j, none⟩) k ((l.drop j).take k) := by
  refine ⟨fun hl => ?_, by rw [List.length_take, List.length_drop]; have := h.len; omega, (h.ok.drop j).take k⟩
  have hm : 0 < m := by
    rcases Nat.eq_zero_or_pos m with h0 | h0
    · exfalso
      have hk0 : k = 0 := by omega
      subst hk0
      simp at hl
    · exact h0
  obtain ⟨g', _, hg, _, hgl, _⟩ := h.at hm
  obtain rfl : g = g' := by simpa using hg
  refine ⟨g, j, rfl, by simp, hgl, fun i a hi q u hu => ?_⟩
  rw [List.getElem?_take] at hi
  split at hi
  · rename_i hik
    rw [List.getElem?_drop] at hi
    have hcell := own_cells uv_len h.own hi q u hu
    rw [← hcell]
    congr 2
    omega
  · simp at hi
/-- Other blocks were written. -/
theorem OF.frS {w0 w w' : World} {g m c : Nat} {l : List Nat} {S : Nat → Prop} (h : OF w0 w (some ⟨g, 0, none⟩) m c l) (hf : Fr w w' S) (hS : ¬ S g) (hS2 : ∀ k, S k → w0.heap.size ≤ k) : OF w0 w' (some ⟨g, 0, none⟩) m c l :=
  ⟨own_fr h.own hf (by intro g' hg'; simp [Value.ownBlock] at hg'; subst hg'; exact hS), h.len, h.ok, h.fr.step hf (fun i hi hs => by have := hS2 i hs; omega)⟩
/-- 'append(out, s...)'. -/
theorem wl_appall_u32 {w0 w : World} {ops : Array Oper} {rest : List Oper} {o : Oper} {a : Act} {Q : Exit → Act → World → Prop} (hgd : o.guard = none) (s x : Operand) (t : TypeId) (ht : Tryz.prog.underlying t = some (.slice 86))
    (ho : o.op = .call { callee := .builtin .append, args := #[s, x], argTypes := #[t, t] })
    (A : Option Addr) (m c : Nat) (l : List Nat) (av : Option Nat) (B : Option Addr) (k d : Nat) (l2 : List Nat) (hs : a.eval s = .slice A m c) (hx : a.eval x = .slice B k d) (hO : OF w0 w A m c l) (hU : Ul w av B k l2) (h63 : m + k ≤ 4294967296)
    (h : ∀ A' c' w', OF w0 w' A' (m + k) c' (l ++ l2) → wpList Tryz.prog ops Q rest (a.put o.dst (.slice A' (m + k) c')) w') :
    wpList Tryz.prog ops Q (o :: rest) a w := by
  refine wl_append _ hgd s x t ho w0.heap.size 86 _ 1 4 ht info86 rfl (by omega) (.slice A m c) m l hs hO.own B k d l2 hx hU.1 hU.len uv_len uv_one h63 (by omega) hO.fr.size ?_
  intro A' c' w' hown hgr _
  refine h A' c' w' ⟨hown, by simp [hO.len, hU.len], hO.ok.append hU.ok, hO.fr.grown hgr ?_⟩
  intro g hg
  left
  rcases hO.own.2 with ⟨h1, _⟩ | ⟨g', cap, cur, hv, hb, _⟩
  · rw [h1] at hg; simp [Value.ownBlock] at hg
  · rw [hv] at hg
    simp [Value.ownBlock] at hg
    omega
/-- A new empty row. -/
theorem OF.new {w0 w : World} (hf : Fr w0 w (fun _ => False)) : OF w0 (w.alloc (.cells #[] 86)) (some ⟨w.heap.size, 0, none⟩) 0 0 [] :=
  ⟨⟨rfl, .inr ⟨w.heap.size, 0, #[], rfl, hf.size, heap_alloc_new w _, Nat.le_refl _, by simp only [maxLen]; omega, rfl, rfl⟩⟩, rfl, okL_nil, hf.alloc _⟩
end Go.Proofs.YtnokfhkcfebimaaGreat
