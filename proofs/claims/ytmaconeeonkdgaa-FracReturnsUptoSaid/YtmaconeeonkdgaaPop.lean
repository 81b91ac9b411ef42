/- bits.OnesCount64, its steps in plain arithmetic. No program in sight. -/
import Derived.Test.YtmaconeeonkdgaaBase
namespace Go.Proofs.Ytmaconeeonkdgaa.Pop
/-- the mask that repeats a byte k times -/
def mk (m : Nat) : Nat → Nat
  | 0 => 0
  | k + 1 => m + 256 * mk m k
theorem and_byte (a A m M : Nat) (ha : a < 256) (hm : m < 256) : (a + 256 * A) &&& (m + 256 * M) = (a &&& m) + 256 * (A &&& M) := by
  have h1 : ((a + 256 * A) &&& (m + 256 * M)) % 2 ^ 8 = a &&& m := by
    rw [Nat.and_mod_two_pow]
    congr 1 <;> omega
  have h2 : ((a + 256 * A) &&& (m + 256 * M)) / 2 ^ 8 = A &&& M := by
    rw [Nat.and_div_two_pow]
    congr 1 <;> omega
  have h3 := Nat.mod_add_div ((a + 256 * A) &&& (m + 256 * M)) (2 ^ 8)
  rw [h1, h2] at h3
  exact h3.symm
def f1 (k x : Nat) : Nat := (x / 2 &&& mk 85 k) + (x &&& mk 85 k)
def f2 (k x : Nat) : Nat := (x / 4 &&& mk 51 k) + (x &&& mk 51 k)
def f3 (k x : Nat) : Nat := (x / 16 + x) &&& mk 15 k
def d1 (b : Nat) : Nat := (b / 2 &&& 85) + (b &&& 85)
def d2 (b : Nat) : Nat := (b / 4 &&& 51) + (b &&& 51)
def d3 (b : Nat) : Nat := (b / 16 + b) &&& 15
def pc (b : Nat) : Nat := d3 (d2 (d1 b))
theorem t1 : ∀ b : Fin 256, ∀ p : Fin 2, ((b.val / 2 + 128 * p.val) &&& 85) = (b.val / 2 &&& 85) := by decide +kernel
theorem t2 : ∀ b : Fin 256, ∀ p : Fin 4, ((b.val / 4 + 64 * p.val) &&& 51) = (b.val / 4 &&& 51) := by decide +kernel
theorem t3 : ∀ b : Fin 256, ∀ p : Fin 5, ((d2 (d1 b.val) / 16 + d2 (d1 b.val) + 16 * p.val) &&& 15) = pc b.val := by decide +kernel
theorem t4 : ∀ b : Fin 256, d1 b.val < 256 ∧ d2 (d1 b.val) < 69 ∧ d2 (d1 b.val) % 16 ≤ 4 ∧ pc b.val ≤ 8 ∧ (pc b.val = 0 → b.val = 0) ∧ (128 ≤ b.val → pc b.val ≤ 1 → b.val = 128) := by decide +kernel
theorem f1_step {k b B : Nat} (hb : b < 256) : f1 (k + 1) (b + 256 * B) = d1 b + 256 * f1 k B := by
  unfold f1 d1
  rw [show mk 85 (k + 1) = 85 + 256 * mk 85 k from rfl]
  have e : (b + 256 * B) / 2 = (b / 2 + 128 * (B % 2)) + 256 * (B / 2) := by omega
  rw [e, and_byte _ _ _ _ (by omega) (by omega), and_byte _ _ _ _ hb (by omega), t1 ⟨b, hb⟩ ⟨B % 2, by omega⟩]
  show (b / 2 &&& 85) + _ + _ = _
  omega
theorem f2_step {k b B : Nat} (hb : b < 256) : f2 (k + 1) (b + 256 * B) = d2 b + 256 * f2 k B := by
  unfold f2 d2
  rw [show mk 51 (k + 1) = 51 + 256 * mk 51 k from rfl]
  have e : (b + 256 * B) / 4 = (b / 4 + 64 * (B % 4)) + 256 * (B / 4) := by omega
  rw [e, and_byte _ _ _ _ (by omega) (by omega), and_byte _ _ _ _ hb (by omega), t2 ⟨b, hb⟩ ⟨B % 4, by omega⟩]
  show (b / 4 &&& 51) + _ + _ = _
  omega
/-- all three steps, byte by byte: the higher part's lowest half byte is at most 4 -/
theorem steps {k b B : Nat} (hb : b < 256) (hB : f2 k (f1 k B) % 16 ≤ 4) :
    f3 (k + 1) (f2 (k + 1) (f1 (k + 1) (b + 256 * B))) = pc b + 256 * f3 k (f2 k (f1 k B)) ∧ f2 (k + 1) (f1 (k + 1) (b + 256 * B)) % 16 ≤ 4 := by
  obtain ⟨h1, h2, h3, _⟩ := t4 ⟨b, hb⟩
  rw [f1_step hb, f2_step h1]
  refine ⟨?_, by omega⟩
  generalize f2 k (f1 k B) = C at *
  unfold f3
  rw [show mk 15 (k + 1) = 15 + 256 * mk 15 k from rfl]
  have e : (d2 (d1 b) + 256 * C) / 16 + (d2 (d1 b) + 256 * C) = (d2 (d1 b) / 16 + d2 (d1 b) + 16 * (C % 16)) + 256 * (C / 16 + C) := by omega
  have h2' : d2 (d1 b) < 69 := h2
  rw [e, and_byte _ _ _ _ (by omega) (by omega), t3 ⟨b, hb⟩ ⟨C % 16, by omega⟩]
theorem eight {b0 b1 b2 b3 b4 b5 b6 b7 : Nat} (h0 : b0 < 256) (h1 : b1 < 256) (h2 : b2 < 256) (h3 : b3 < 256) (h4 : b4 < 256) (h5 : b5 < 256) (h6 : b6 < 256) (h7 : b7 < 256) :
    f3 8 (f2 8 (f1 8 (b0 + 256 * (b1 + 256 * (b2 + 256 * (b3 + 256 * (b4 + 256 * (b5 + 256 * (b6 + 256 * (b7 + 256 * 0))))))))))
      = pc b0 + 256 * (pc b1 + 256 * (pc b2 + 256 * (pc b3 + 256 * (pc b4 + 256 * (pc b5 + 256 * (pc b6 + 256 * pc b7)))))) := by
  have s7 := steps (k := 0) (B := 0) h7 (by decide)
  have s6 := steps h6 s7.2
  have s5 := steps h5 s6.2
  have s4 := steps h4 s5.2
  have s3 := steps h3 s4.2
  have s2 := steps h2 s3.2
  have s1 := steps h1 s2.2
  have s0 := steps h0 s1.2
  rw [s0.1, s1.1, s2.1, s3.1, s4.1, s5.1, s6.1, s7.1]
  simp [f3, mk]
theorem folds {p0 p1 p2 p3 p4 p5 p6 p7 : Nat} (h0 : p0 ≤ 8) (h1 : p1 ≤ 8) (h2 : p2 ≤ 8) (h3 : p3 ≤ 8) (h4 : p4 ≤ 8) (h5 : p5 ≤ 8) (h6 : p6 ≤ 8) (h7 : p7 ≤ 8) {x3 x4 x5 x6 : Nat}
    (e3 : x3 = p0 + 256 * (p1 + 256 * (p2 + 256 * (p3 + 256 * (p4 + 256 * (p5 + 256 * (p6 + 256 * p7))))))) (e4 : x4 = x3 + x3 / 256) (e5 : x5 = x4 + x4 / 65536) (e6 : x6 = x5 + x5 / 4294967296) :
    x6 % 128 = p0 + p1 + p2 + p3 + p4 + p5 + p6 + p7 ∧ x6 < 18446744073709551616 := by
  have g4 : x4 = (p0 + p1) + 256 * ((p1 + p2) + 256 * ((p2 + p3) + 256 * ((p3 + p4) + 256 * ((p4 + p5) + 256 * ((p5 + p6) + 256 * ((p6 + p7) + 256 * p7)))))) := by omega
  clear e3 e4
  have g5 : x5 = (p0 + p1 + p2 + p3) + 256 * ((p1 + p2 + p3 + p4) + 256 * ((p2 + p3 + p4 + p5) + 256 * ((p3 + p4 + p5 + p6) + 256 * ((p4 + p5 + p6 + p7) + 256 * ((p5 + p6 + p7) + 256 * ((p6 + p7) + 256 * p7)))))) := by omega
  clear g4 e5
  have gq : x5 / 4294967296 = (p4 + p5 + p6 + p7) + 256 * ((p5 + p6 + p7) + 256 * ((p6 + p7) + 256 * p7)) := by omega
  rw [gq] at e6
  have g6 : x6 = (p0 + p1 + p2 + p3 + p4 + p5 + p6 + p7) + 256 * (((p1 + p2 + p3 + p4) + 256 * ((p2 + p3 + p4 + p5) + 256 * ((p3 + p4 + p5 + p6) + 256 * ((p4 + p5 + p6 + p7) + 256 * ((p5 + p6 + p7) + 256 * ((p6 + p7) + 256 * p7)))))) + ((p5 + p6 + p7) + 256 * ((p6 + p7) + 256 * p7))) := by omega
  clear gq e6 g5
  omega
/-- a word whose highest bit stands has the count 1 just where it is 2^63 -/
theorem one {x x1 x2 x3 x4 x5 x6 : Nat} (hx : x < 18446744073709551616) (hh : 9223372036854775808 ≤ x) (e1 : x1 = f1 8 x) (e2 : x2 = f2 8 x1) (e3 : x3 = f3 8 x2) (e4 : x4 = x3 + x3 / 256) (e5 : x5 = x4 + x4 / 65536) (e6 : x6 = x5 + x5 / 4294967296) :
    x6 % 128 = 1 ↔ x = 9223372036854775808 := by
  obtain ⟨b0, q0, hb0, hq0⟩ : ∃ b q, b < 256 ∧ x = b + 256 * q := ⟨x % 256, x / 256, by omega, by omega⟩
  obtain ⟨b1, q1, hb1, hq1⟩ : ∃ b q, b < 256 ∧ q0 = b + 256 * q := ⟨q0 % 256, q0 / 256, by omega, by omega⟩
  obtain ⟨b2, q2, hb2, hq2⟩ : ∃ b q, b < 256 ∧ q1 = b + 256 * q := ⟨q1 % 256, q1 / 256, by omega, by omega⟩
  obtain ⟨b3, q3, hb3, hq3⟩ : ∃ b q, b < 256 ∧ q2 = b + 256 * q := ⟨q2 % 256, q2 / 256, by omega, by omega⟩
  obtain ⟨b4, q4, hb4, hq4⟩ : ∃ b q, b < 256 ∧ q3 = b + 256 * q := ⟨q3 % 256, q3 / 256, by omega, by omega⟩
  obtain ⟨b5, q5, hb5, hq5⟩ : ∃ b q, b < 256 ∧ q4 = b + 256 * q := ⟨q4 % 256, q4 / 256, by omega, by omega⟩
  obtain ⟨b6, b7, hb6, hq6⟩ : ∃ b q, b < 256 ∧ q5 = b + 256 * q := ⟨q5 % 256, q5 / 256, by omega, by omega⟩
  have hb7 : b7 < 256 := by omega
  have hb7' : 128 ≤ b7 := by omega
  have e := eight hb0 hb1 hb2 hb3 hb4 hb5 hb6 hb7
  have ex : x = b0 + 256 * (b1 + 256 * (b2 + 256 * (b3 + 256 * (b4 + 256 * (b5 + 256 * (b6 + 256 * (b7 + 256 * 0))))))) := by omega
  rw [← ex, ← e1, ← e2, ← e3] at e
  have p0 := (t4 ⟨b0, hb0⟩).2.2.2
  have p1 := (t4 ⟨b1, hb1⟩).2.2.2
  have p2 := (t4 ⟨b2, hb2⟩).2.2.2
  have p3 := (t4 ⟨b3, hb3⟩).2.2.2
  have p4 := (t4 ⟨b4, hb4⟩).2.2.2
  have p5 := (t4 ⟨b5, hb5⟩).2.2.2
  have p6 := (t4 ⟨b6, hb6⟩).2.2.2
  have p7 := (t4 ⟨b7, hb7⟩).2.2.2
  have hf := (folds p0.1 p1.1 p2.1 p3.1 p4.1 p5.1 p6.1 p7.1 e e4 e5 e6).1
  simp only at p0 p1 p2 p3 p4 p5 p6 p7
  rw [hf]
  show (pc b0 + pc b1 + pc b2 + pc b3 + pc b4 + pc b5 + pc b6 + pc b7 = 1) ↔ _
  constructor
  · intro h
    have h7 : pc b7 ≠ 0 := fun hz => by have := p7.2.1 hz; omega
    have hs : pc b0 + pc b1 + pc b2 + pc b3 + pc b4 + pc b5 + pc b6 = 0 ∧ pc b7 = 1 := by clear p0 p1 p2 p3 p4 p5 p6 p7 e e1 e2 e3 e4 e5 e6 ex hq0 hq1 hq2 hq3 hq4 hq5 hq6 hf; omega
    obtain ⟨hs, h8⟩ := hs
    have z0 := p0.2.1 (by omega)
    have z1 := p1.2.1 (by omega)
    have z2 := p2.2.1 (by omega)
    have z3 := p3.2.1 (by omega)
    have z4 := p4.2.1 (by omega)
    have z5 := p5.2.1 (by omega)
    have z6 := p6.2.1 (by omega)
    have z7 := p7.2.2 hb7' (by omega)
    omega
  · intro h
    obtain rfl : b7 = 128 := by omega
    obtain rfl : b0 = 0 := by omega
    obtain rfl : b1 = 0 := by omega
    obtain rfl : b2 = 0 := by omega
    obtain rfl : b3 = 0 := by omega
    obtain rfl : b4 = 0 := by omega
    obtain rfl : b5 = 0 := by omega
    obtain rfl : b6 = 0 := by omega
    decide
end Go.Proofs.Ytmaconeeonkdgaa.Pop
