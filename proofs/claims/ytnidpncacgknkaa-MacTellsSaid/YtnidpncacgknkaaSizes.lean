/- A block that lies below a size lies below what is more. No condition: numbers alone. -/
namespace Go.Proofs.Ytnidpncacgknkaa
/-! a block that lies below a size lies below what is more -/
theorem h_lt1 (b n a1 : Nat) (h : b < n) : (b < n + a1) = True := by simp only [eq_iff_iff, iff_true]; omega
theorem h_eq1 (b n a1 : Nat) (h : b < n) : (b = n + a1) = False := by simp only [eq_iff_iff, iff_false]; omega
theorem h_qe1 (b n a1 : Nat) (h : b < n) : (n + a1 = b) = False := by simp only [eq_iff_iff, iff_false]; omega
theorem h_lt2 (b n a1 a2 : Nat) (h : b < n) : (b < n + a1 + a2) = True := by simp only [eq_iff_iff, iff_true]; omega
theorem h_eq2 (b n a1 a2 : Nat) (h : b < n) : (b = n + a1 + a2) = False := by simp only [eq_iff_iff, iff_false]; omega
theorem h_qe2 (b n a1 a2 : Nat) (h : b < n) : (n + a1 + a2 = b) = False := by simp only [eq_iff_iff, iff_false]; omega
theorem h_lt3 (b n a1 a2 a3 : Nat) (h : b < n) : (b < n + a1 + a2 + a3) = True := by simp only [eq_iff_iff, iff_true]; omega
theorem h_eq3 (b n a1 a2 a3 : Nat) (h : b < n) : (b = n + a1 + a2 + a3) = False := by simp only [eq_iff_iff, iff_false]; omega
theorem h_qe3 (b n a1 a2 a3 : Nat) (h : b < n) : (n + a1 + a2 + a3 = b) = False := by simp only [eq_iff_iff, iff_false]; omega
theorem h_lt4 (b n a1 a2 a3 a4 : Nat) (h : b < n) : (b < n + a1 + a2 + a3 + a4) = True := by simp only [eq_iff_iff, iff_true]; omega
theorem h_eq4 (b n a1 a2 a3 a4 : Nat) (h : b < n) : (b = n + a1 + a2 + a3 + a4) = False := by simp only [eq_iff_iff, iff_false]; omega
theorem h_qe4 (b n a1 a2 a3 a4 : Nat) (h : b < n) : (n + a1 + a2 + a3 + a4 = b) = False := by simp only [eq_iff_iff, iff_false]; omega
theorem h_lt5 (b n a1 a2 a3 a4 a5 : Nat) (h : b < n) : (b < n + a1 + a2 + a3 + a4 + a5) = True := by simp only [eq_iff_iff, iff_true]; omega
theorem h_eq5 (b n a1 a2 a3 a4 a5 : Nat) (h : b < n) : (b = n + a1 + a2 + a3 + a4 + a5) = False := by simp only [eq_iff_iff, iff_false]; omega
theorem h_qe5 (b n a1 a2 a3 a4 a5 : Nat) (h : b < n) : (n + a1 + a2 + a3 + a4 + a5 = b) = False := by simp only [eq_iff_iff, iff_false]; omega
theorem h_lt6 (b n a1 a2 a3 a4 a5 a6 : Nat) (h : b < n) : (b < n + a1 + a2 + a3 + a4 + a5 + a6) = True := by simp only [eq_iff_iff, iff_true]; omega
theorem h_eq6 (b n a1 a2 a3 a4 a5 a6 : Nat) (h : b < n) : (b = n + a1 + a2 + a3 + a4 + a5 + a6) = False := by simp only [eq_iff_iff, iff_false]; omega
theorem h_qe6 (b n a1 a2 a3 a4 a5 a6 : Nat) (h : b < n) : (n + a1 + a2 + a3 + a4 + a5 + a6 = b) = False := by simp only [eq_iff_iff, iff_false]; omega

end Go.Proofs.Ytnidpncacgknkaa
