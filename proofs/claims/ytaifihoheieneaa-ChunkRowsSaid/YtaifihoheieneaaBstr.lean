/- The string of bytes, as a list; two of them. Plain facts. -/
import Derived.Test.YtaifihoheieneaaSl
import Derived.Lib.SlicesS
namespace Go.Proofs.Ytaifihoheieneaa.Octet
set_option linter.unusedVariables false
set_option linter.unusedSimpArgs false
def u8s (xs : List Int) : List UInt8 := xs.map fun n => UInt8.ofNat n.toNat
theorem foldl_push (xs : List Int) (r : ByteArray) : (xs.foldl (fun r n => r.push (UInt8.ofNat n.toNat)) r).data.toList = r.data.toList ++ u8s xs := by
  induction xs generalizing r with
  | nil => simp [u8s]
  | cons x xs ih =>
    rw [List.foldl_cons, ih]
    simp [u8s, ByteArray.push]
theorem bstr_data (xs : List Int) : (bstr xs).data.toList = u8s xs := by
  unfold bstr
  rw [foldl_push]
  rw [show ByteArray.empty.data.toList = [] from rfl, List.nil_append]
theorem bstr_list (xs : List Int) : (bstr xs).toList = u8s xs := by rw [ByteArray.toList_eq]; exact bstr_data xs
theorem u8s_inj {xs ys : List Int} (hx : IsB xs) (hy : IsB ys) (h : u8s xs = u8s ys) : xs = ys := by
  induction xs generalizing ys with
  | nil => cases ys with
    | nil => rfl
    | cons y ys => simp [u8s] at h
  | cons x xs ih => cases ys with
    | nil => simp [u8s] at h
    | cons y ys =>
      simp only [u8s, List.map_cons, List.cons.injEq] at h
      have h1 := hx x (by simp)
      have h2 := hy y (by simp)
      have e : x.toNat = y.toNat := by
        have := congrArg UInt8.toNat h.1
        simp at this
        omega
      rw [ih (fun z hz => hx z (List.mem_cons_of_mem _ hz)) (fun z hz => hy z (List.mem_cons_of_mem _ hz)) h.2, show x = y by omega]
theorem bstr_inj {xs ys : List Int} (hx : IsB xs) (hy : IsB ys) (h : bstr xs = bstr ys) : xs = ys :=
  u8s_inj hx hy (by rw [← bstr_list, ← bstr_list, h])
/-- Two strings of bytes, as a walk holds them against one another. -/
theorem bstr_beq {xs ys : List Int} (hx : IsB xs) (hy : IsB ys) : ((bstr xs).toList == (bstr ys).toList) = decide (xs = ys) := by
  rw [bstr_list, bstr_list]
  by_cases h : xs = ys
  · subst h; simp
  · have : ¬ u8s xs = u8s ys := fun e => h (u8s_inj hx hy e)
    simp [h, this]
theorem bstr_size (xs : List Int) : (bstr xs).size = xs.length := by
  have := congrArg List.length (bstr_data xs)
  simpa [u8s] using this
theorem bstr_app (xs ys : List Int) : bstr xs ++ bstr ys = bstr (xs ++ ys) := by
  apply ByteArray.ext
  apply Array.toList_inj.1
  rw [bstr_data]
  simp [u8s, bstr_data]
end Go.Proofs.Ytaifihoheieneaa.Octet
