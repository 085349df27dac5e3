/- Contract of the reference's Next. No conditions but those printed. -/
import Derived.Test.YtfdajdlbkdfhoaaTokH
namespace Go.Proofs.Ytfdajdlbkdfhoaa
open Go.RowKit Cal Str Tok Frac
attribute [local go_sem] calmUpon
set_option linter.unusedVariables false
set_option linter.unusedSimpArgs false

theorem rn_w (l : List UInt8) : rn (clsB false) l = rn inw l := by
  have : clsB false = inw := by funext c; rfl
  rw [this]
theorem rn_n (l : List UInt8) : rn (clsB true) l = rn inn l := by
  have : clsB true = inn := by funext c; rfl
  rw [this]

set_option maxRecDepth 100000 in
set_option maxHeartbeats 4000000 in
theorem rNext_w (s : ByteArray) (k b : Nat) (w : World) (hs : s.size ≤ 140737488355328) (hk : k ≤ s.size) (hb : skp s k = b) (hbl : b < s.size) (hl : low s[b] = true) :
    Calls Try.prog 12 #[.string s, .int .i64 (k : Int)] w (NxRes s k w) := by
  have hne : ((b : Int) == (s.size : Int)) = false := by simp; omega
  have he : ¬ b = s.size := by omega
  have SK : Hid (∀ w, Calls Try.prog 23 #[.string s, .int .i64 (k : Int)] w fun e w' => e = .returned (.int .i64 (b : Int)) ∧ w = w') := fun w => by
    have := rskip_any s k w (by unfold maxLen; omega) hk; rwa [hb] at this
  obtain ⟨n, hn⟩ : ∃ n, rn inw (s.data.toList.drop b) = n := ⟨_, rfl⟩
  have hbn : b + n ≤ s.size := by have := rn_le inw (s.data.toList.drop b); rw [drop_len, hn] at this; omega
  have RU : Hid (∀ w, Calls Try.prog 25 #[.string s, .int .i64 (b : Int), .bool false] w fun e w' => e = .returned (.int .i64 (n : Int)) ∧ w = w') := fun w => by
    have := run_any s b false w hs (by omega); rwa [rn_w, hn] at this
  have w1 : IntKind.i64.wrap ((b : Int) + (n : Int)) = (b : Int) + (n : Int) := IntWalk.i64_in _ ⟨by omega, by omega⟩
  have i1 : ((b : Int) + (n : Int)).toNat = b + n := by omega
  by_cases h12 : n ≤ 12
  · have d12 : decide ((n : Int) ≤ 12) = true := by simp; omega
    have T := tok_w1 hbl hl (by rw [hn]; exact h12)
    have R2 := nx_3 hk hb he (by rw [T.2]; decide)
    rw [T.1, T.2, hn] at R2
    have R := Lib.hid R2
    clear T R2 hn he
    go_enter Try.func12, Try.ntmps12
    go_wp2_with fail
    with_reducible refine (SK.out _).mono ?_
    rintro e w1 ⟨rfl, rfl⟩
    go_wp2_with (go_at_call 24; refine (letter_any _ _).mono ?_; rintro e w1 ⟨rfl, rfl⟩)
    with_reducible refine (RU.out _).mono ?_
    rintro e w1 ⟨rfl, rfl⟩
    go_upto_region 22 with (fail)
    ((try simp only []); (repeat (first | go_values | go_skip | go_guarded | go_step | go_upon | go_in)))
    refine bodyPost_ret (v := .tuple #[.agg #[.int .i64 1, .string (s.extract b (b + n)), .int .i64 b], .int .i64 (b + n : Nat), .int .i64 0]) ?_ rfl (nx_ret R.out ?_)
    · simp [results, Try.results12, go_sem]
    · (show Rel _ _; repeat (first | with_reducible exact Rel.refl _ | with_reducible refine Rel.alloc ?_ _ | with_reducible refine Rel.setCell ?_ (by first | (simp; done) | (simp; omega)) _ | with_reducible refine Rel.drew ?_ | with_reducible refine Rel.trans ?_ H1.out | with_reducible refine Rel.trans ?_ H0.out))
  · have d12 : decide ((n : Int) ≤ 12) = false := by simp; omega
    have T := tok_w0 hbl hl (by rw [hn]; exact h12)
    have R := Lib.hid (nx_2 hk hb he T.2)
    clear T hn he
    go_enter Try.func12, Try.ntmps12
    go_wp2_with fail
    with_reducible refine (SK.out _).mono ?_
    rintro e w1 ⟨rfl, rfl⟩
    go_wp2_with (go_at_call 24; refine (letter_any _ _).mono ?_; rintro e w1 ⟨rfl, rfl⟩)
    with_reducible refine (RU.out _).mono ?_
    rintro e w1 ⟨rfl, rfl⟩
    go_upto_region 21 with (fail)
    ((try simp only []); (repeat (first | go_values | go_skip | go_guarded | go_step | go_upon | go_in)))
    refine bodyPost_ret (v := .tuple #[.agg #[.int .i64 0, .string ⟨#[]⟩, .int .i64 0], .int .i64 b, .int .i64 4]) ?_ rfl (nx_ret R.out ?_)
    · simp [results, Try.results12, go_sem]
    · (show Rel _ _; repeat (first | with_reducible exact Rel.refl _ | with_reducible refine Rel.alloc ?_ _ | with_reducible refine Rel.setCell ?_ (by first | (simp; done) | (simp; omega)) _ | with_reducible refine Rel.drew ?_ | with_reducible refine Rel.trans ?_ H1.out | with_reducible refine Rel.trans ?_ H0.out))

set_option maxRecDepth 100000 in
set_option maxHeartbeats 4000000 in
theorem rNext_n (s : ByteArray) (k b : Nat) (w : World) (hs : s.size ≤ 140737488355328) (hk : k ≤ s.size) (hb : skp s k = b) (hbl : b < s.size) (hl : low s[b] = false) (hd : dgb s[b] = true) :
    Calls Try.prog 12 #[.string s, .int .i64 (k : Int)] w (NxRes s k w) := by
  have hne : ((b : Int) == (s.size : Int)) = false := by simp; omega
  have he : ¬ b = s.size := by omega
  have SK : Hid (∀ w, Calls Try.prog 23 #[.string s, .int .i64 (k : Int)] w fun e w' => e = .returned (.int .i64 (b : Int)) ∧ w = w') := fun w => by
    have := rskip_any s k w (by unfold maxLen; omega) hk; rwa [hb] at this
  obtain ⟨n, hn⟩ : ∃ n, rn inn (s.data.toList.drop b) = n := ⟨_, rfl⟩
  have hbn : b + n ≤ s.size := by have := rn_le inn (s.data.toList.drop b); rw [drop_len, hn] at this; omega
  have RU : Hid (∀ w, Calls Try.prog 25 #[.string s, .int .i64 (b : Int), .bool true] w fun e w' => e = .returned (.int .i64 (n : Int)) ∧ w = w') := fun w => by
    have := run_any s b true w hs (by omega); rwa [rn_n, hn] at this
  have i1 : ((b : Int) + (n : Int)).toNat = b + n := by omega
  obtain ⟨X1, X2, X3, hP⟩ : ∃ X1 X2 X3, ∀ w, Calls Try.prog 27 #[.string (s.extract b (b + n))] w fun e w' => e = .returned (.tuple #[.string X1, .string X2, .int .i64 X3, .bool (decB (s.extract b (b + n)))]) ∧ w = w' :=
    ⟨_, _, _, fun w => parts_any (s.extract b (b + n)) w (by rw [ByteArray.size_extract]; unfold maxLen; omega)⟩
  cases hB : decB (s.extract b (b + n))
  · have T := tok_n0 hbl hl hd (by rw [hn]; exact hB)
    have R := Lib.hid (nx_2 hk hb he T.2)
    rw [hB] at hP
    have HP := Lib.hid hP
    clear T hn he hP hB
    go_enter Try.func12, Try.ntmps12
    go_wp2_with fail
    with_reducible refine (SK.out _).mono ?_
    rintro e w1 ⟨rfl, rfl⟩
    go_wp2_with (first | (go_at_call 24; refine (letter_any _ _).mono ?_; rintro e w1 ⟨rfl, rfl⟩) | (go_at_call 26; refine (rdigit_any _ _).mono ?_; rintro e w1 ⟨rfl, rfl⟩))
    with_reducible refine (RU.out _).mono ?_
    rintro e w1 ⟨rfl, rfl⟩
    go_wp2_with fail
    with_reducible refine (HP.out _).mono ?_
    rintro e w1 ⟨rfl, rfl⟩
    go_upto_region 21 with (fail)
    ((try simp only []); (repeat (first | go_values | go_skip | go_guarded | go_step | go_upon | go_in)))
    refine bodyPost_ret (v := .tuple #[.agg #[.int .i64 0, .string ⟨#[]⟩, .int .i64 0], .int .i64 b, .int .i64 4]) ?_ rfl (nx_ret R.out ?_)
    · simp [results, Try.results12, go_sem]
    · (show Rel _ _; repeat (first | with_reducible exact Rel.refl _ | with_reducible refine Rel.alloc ?_ _ | with_reducible refine Rel.setCell ?_ (by first | (simp; done) | (simp; omega)) _ | with_reducible refine Rel.drew ?_ | with_reducible refine Rel.trans ?_ H1.out | with_reducible refine Rel.trans ?_ H0.out))
  · have T := tok_n1 hbl hl hd (by rw [hn]; exact hB)
    have R2 := nx_3 hk hb he (by rw [T.2]; decide)
    rw [T.1, T.2, hn] at R2
    have R := Lib.hid R2
    rw [hB] at hP
    have HP := Lib.hid hP
    clear T R2 hn he hP hB
    go_enter Try.func12, Try.ntmps12
    go_wp2_with fail
    with_reducible refine (SK.out _).mono ?_
    rintro e w1 ⟨rfl, rfl⟩
    go_wp2_with (first | (go_at_call 24; refine (letter_any _ _).mono ?_; rintro e w1 ⟨rfl, rfl⟩) | (go_at_call 26; refine (rdigit_any _ _).mono ?_; rintro e w1 ⟨rfl, rfl⟩))
    with_reducible refine (RU.out _).mono ?_
    rintro e w1 ⟨rfl, rfl⟩
    go_wp2_with fail
    with_reducible refine (HP.out _).mono ?_
    rintro e w1 ⟨rfl, rfl⟩
    go_upto_region 22 with (fail)
    ((try simp only []); (repeat (first | go_values | go_skip | go_guarded | go_step | go_upon | go_in)))
    refine bodyPost_ret (v := .tuple #[.agg #[.int .i64 2, .string (s.extract b (b + n)), .int .i64 b], .int .i64 (b + n : Nat), .int .i64 0]) ?_ rfl (nx_ret R.out ?_)
    · simp [results, Try.results12, go_sem]
    · (show Rel _ _; repeat (first | with_reducible exact Rel.refl _ | with_reducible refine Rel.alloc ?_ _ | with_reducible refine Rel.setCell ?_ (by first | (simp; done) | (simp; omega)) _ | with_reducible refine Rel.drew ?_ | with_reducible refine Rel.trans ?_ H1.out | with_reducible refine Rel.trans ?_ H0.out))

set_option maxRecDepth 100000 in
set_option maxHeartbeats 4000000 in
theorem rNext_d (s : ByteArray) (k b : Nat) (w : World) (hs : s.size ≤ 140737488355328) (hk : k ≤ s.size) (hb : skp s k = b) (hbl : b < s.size) (hl : low s[b] = false) (hd : dgb s[b] = false) (h64 : (s[b].toNat : Int) = 64) :
    Calls Try.prog 12 #[.string s, .int .i64 (k : Int)] w (NxRes s k w) := by
  have hne : ((b : Int) == (s.size : Int)) = false := by simp; omega
  have he : ¬ b = s.size := by omega
  have SK : Hid (∀ w, Calls Try.prog 23 #[.string s, .int .i64 (k : Int)] w fun e w' => e = .returned (.int .i64 (b : Int)) ∧ w = w') := fun w => by
    have := rskip_any s k w (by unfold maxLen; omega) hk; rwa [hb] at this
  have b64 : ((s[b].toNat : Int) == 64) = true := by simpa using h64
  by_cases h11 : b + 11 ≤ s.size
  · have c11 : (11 : Int) ≤ (s.size : Int) - (b : Int) := by omega
    have d11 : decide ((11 : Int) ≤ (s.size : Int) - (b : Int)) = true := by simp; omega
    have q1 : ((b : Int) + 11).toNat = b + 11 := by omega
    have q2 : ((b : Int) + 1).toNat = b + 1 := by omega
    have hP := fun w => RParse_any (s.extract (b + 1) (b + 11)) w (by rw [ByteArray.size_extract]; unfold maxLen; omega)
    cases hB : prsB (s.extract (b + 1) (b + 11))
    · have T := tok_d0 hbl hl hd h64 (fun h' => by rw [hB] at h'; cases h'.2)
      have R := Lib.hid (nx_2 hk hb he T.2)
      rw [hB] at hP
      have HP := Lib.hid hP
      clear T he hP hB h64
      go_enter Try.func12, Try.ntmps12
      go_wp2_with fail
      with_reducible refine (SK.out _).mono ?_
      rintro e w1 ⟨rfl, rfl⟩
      go_wp2_with (first | (go_at_call 24; refine (letter_any _ _).mono ?_; rintro e w1 ⟨rfl, rfl⟩) | (go_at_call 26; refine (rdigit_any _ _).mono ?_; rintro e w1 ⟨rfl, rfl⟩))
      with_reducible refine (HP.out _).mono ?_
      rintro e w1 ⟨rfl, rfl⟩
      go_upto_region 21 with (fail)
      ((try simp only []); (repeat (first | go_values | go_skip | go_guarded | go_step | go_upon | go_in)))
      refine bodyPost_ret (v := .tuple #[.agg #[.int .i64 0, .string ⟨#[]⟩, .int .i64 0], .int .i64 b, .int .i64 4]) ?_ rfl (nx_ret R.out ?_)
      · simp [results, Try.results12, go_sem]
      · (show Rel _ _; repeat (first | with_reducible exact Rel.refl _ | with_reducible refine Rel.alloc ?_ _ | with_reducible refine Rel.setCell ?_ (by first | (simp; done) | (simp; omega)) _ | with_reducible refine Rel.drew ?_ | with_reducible refine Rel.trans ?_ H1.out | with_reducible refine Rel.trans ?_ H0.out))
    · have T := tok_d1 hbl hl hd h64 h11 hB
      have R2 := nx_3 hk hb he (by rw [T.2]; decide)
      rw [T.1, T.2] at R2
      have R := Lib.hid R2
      rw [hB] at hP
      have HP := Lib.hid hP
      clear T R2 he hP hB h64
      go_enter Try.func12, Try.ntmps12
      go_wp2_with fail
      with_reducible refine (SK.out _).mono ?_
      rintro e w1 ⟨rfl, rfl⟩
      go_wp2_with (first | (go_at_call 24; refine (letter_any _ _).mono ?_; rintro e w1 ⟨rfl, rfl⟩) | (go_at_call 26; refine (rdigit_any _ _).mono ?_; rintro e w1 ⟨rfl, rfl⟩))
      with_reducible refine (HP.out _).mono ?_
      rintro e w1 ⟨rfl, rfl⟩
      go_upto_region 22 with (fail)
      ((try simp only []); (repeat (first | go_values | go_skip | go_guarded | go_step | go_upon | go_in)))
      refine bodyPost_ret (v := .tuple #[.agg #[.int .i64 3, .string (s.extract b (b + 11)), .int .i64 b], .int .i64 (b + 11 : Nat), .int .i64 0]) ?_ rfl (nx_ret R.out ?_)
      · simp [results, Try.results12, go_sem]
      · (show Rel _ _; repeat (first | with_reducible exact Rel.refl _ | with_reducible refine Rel.alloc ?_ _ | with_reducible refine Rel.setCell ?_ (by first | (simp; done) | (simp; omega)) _ | with_reducible refine Rel.drew ?_ | with_reducible refine Rel.trans ?_ H1.out | with_reducible refine Rel.trans ?_ H0.out))
  · have d11 : decide ((11 : Int) ≤ (s.size : Int) - (b : Int)) = false := by simp; omega
    have T := tok_d0 hbl hl hd h64 (fun h' => h11 h'.1)
    have R := Lib.hid (nx_2 hk hb he T.2)
    clear T he h64
    go_enter Try.func12, Try.ntmps12
    go_wp2_with fail
    with_reducible refine (SK.out _).mono ?_
    rintro e w1 ⟨rfl, rfl⟩
    go_upto_region 21 with (first | (go_at_call 24; refine (letter_any _ _).mono ?_; rintro e w1 ⟨rfl, rfl⟩) | (go_at_call 26; refine (rdigit_any _ _).mono ?_; rintro e w1 ⟨rfl, rfl⟩))
    ((try simp only []); (repeat (first | go_values | go_skip | go_guarded | go_step | go_upon | go_in)))
    refine bodyPost_ret (v := .tuple #[.agg #[.int .i64 0, .string ⟨#[]⟩, .int .i64 0], .int .i64 b, .int .i64 4]) ?_ rfl (nx_ret R.out ?_)
    · simp [results, Try.results12, go_sem]
    · (show Rel _ _; repeat (first | with_reducible exact Rel.refl _ | with_reducible refine Rel.alloc ?_ _ | with_reducible refine Rel.setCell ?_ (by first | (simp; done) | (simp; omega)) _ | with_reducible refine Rel.drew ?_ | with_reducible refine Rel.trans ?_ H1.out | with_reducible refine Rel.trans ?_ H0.out))

set_option maxRecDepth 100000 in
set_option maxHeartbeats 4000000 in
theorem rNext_s (s : ByteArray) (k b : Nat) (w : World) (hs : s.size ≤ 140737488355328) (hk : k ≤ s.size) (hb : skp s k = b) (hbl : b < s.size) (hl : low s[b] = false) (hd : dgb s[b] = false) (h64 : ¬ (s[b].toNat : Int) = 64) :
    Calls Try.prog 12 #[.string s, .int .i64 (k : Int)] w (NxRes s k w) := by
  have hne : ((b : Int) == (s.size : Int)) = false := by simp; omega
  have he : ¬ b = s.size := by omega
  have SK : Hid (∀ w, Calls Try.prog 23 #[.string s, .int .i64 (k : Int)] w fun e w' => e = .returned (.int .i64 (b : Int)) ∧ w = w') := fun w => by
    have := rskip_any s k w (by unfold maxLen; omega) hk; rwa [hb] at this
  have b64 : ((s[b].toNat : Int) == 64) = false := by simpa using h64
  have T := tok_s hbl hl hd h64
  have hle := (sgl_le (s.data.toList.drop b)).1
  obtain ⟨n, hn⟩ : ∃ n, sgl (s.data.toList.drop b) = n := ⟨_, rfl⟩
  rw [drop_len] at hle
  have SG : Hid (∀ w, Calls Try.prog 29 #[.string s, .int .i64 (b : Int)] w fun e w' => e = .returned (.int .i64 (n : Int)) ∧ w = w') := fun w => by
    have := sign_any s b w hs hbl; rwa [hn] at this
  rw [hn] at T hle
  have i1 : ((b : Int) + (n : Int)).toNat = b + n := by omega
  by_cases h0 : 0 < n
  · have d0 : decide ((0 : Int) < (n : Int)) = true := by simp; omega
    rw [if_pos h0] at T
    have R2 := nx_3 hk hb he (by rw [T.2]; decide)
    rw [T.1, T.2] at R2
    have R := Lib.hid R2
    clear T R2 he h64 hn
    go_enter Try.func12, Try.ntmps12
    go_wp2_with fail
    with_reducible refine (SK.out _).mono ?_
    rintro e w1 ⟨rfl, rfl⟩
    go_wp2_with (first | (go_at_call 24; refine (letter_any _ _).mono ?_; rintro e w1 ⟨rfl, rfl⟩) | (go_at_call 26; refine (rdigit_any _ _).mono ?_; rintro e w1 ⟨rfl, rfl⟩))
    with_reducible refine (SG.out _).mono ?_
    rintro e w1 ⟨rfl, rfl⟩
    go_upto_region 22 with (fail)
    ((try simp only []); (repeat (first | go_values | go_skip | go_guarded | go_step | go_upon | go_in)))
    refine bodyPost_ret (v := .tuple #[.agg #[.int .i64 4, .string (s.extract b (b + n)), .int .i64 b], .int .i64 (b + n : Nat), .int .i64 0]) ?_ rfl (nx_ret R.out ?_)
    · simp [results, Try.results12, go_sem]
    · (show Rel _ _; repeat (first | with_reducible exact Rel.refl _ | with_reducible refine Rel.alloc ?_ _ | with_reducible refine Rel.setCell ?_ (by first | (simp; done) | (simp; omega)) _ | with_reducible refine Rel.drew ?_ | with_reducible refine Rel.trans ?_ H1.out | with_reducible refine Rel.trans ?_ H0.out))
  · have d0 : decide ((0 : Int) < (n : Int)) = false := by simp; omega
    rw [if_neg h0] at T
    have R := Lib.hid (nx_2 hk hb he T.2)
    clear T he h64 hn
    go_enter Try.func12, Try.ntmps12
    go_wp2_with fail
    with_reducible refine (SK.out _).mono ?_
    rintro e w1 ⟨rfl, rfl⟩
    go_wp2_with (first | (go_at_call 24; refine (letter_any _ _).mono ?_; rintro e w1 ⟨rfl, rfl⟩) | (go_at_call 26; refine (rdigit_any _ _).mono ?_; rintro e w1 ⟨rfl, rfl⟩))
    with_reducible refine (SG.out _).mono ?_
    rintro e w1 ⟨rfl, rfl⟩
    go_upto_region 21 with (fail)
    ((try simp only []); (repeat (first | go_values | go_skip | go_guarded | go_step | go_upon | go_in)))
    refine bodyPost_ret (v := .tuple #[.agg #[.int .i64 0, .string ⟨#[]⟩, .int .i64 0], .int .i64 b, .int .i64 4]) ?_ rfl (nx_ret R.out ?_)
    · simp [results, Try.results12, go_sem]
    · (show Rel _ _; repeat (first | with_reducible exact Rel.refl _ | with_reducible refine Rel.alloc ?_ _ | with_reducible refine Rel.setCell ?_ (by first | (simp; done) | (simp; omega)) _ | with_reducible refine Rel.drew ?_ | with_reducible refine Rel.trans ?_ H1.out | with_reducible refine Rel.trans ?_ H0.out))

set_option maxRecDepth 100000 in
set_option maxHeartbeats 4000000 in
theorem rNext_any (s : ByteArray) (a : Int) (w : World) (hs : s.size ≤ 140737488355328) (h0 : -9223372036854775808 ≤ a) (h1 : a ≤ 9223372036854775807) :
    Calls Try.prog 12 #[.string s, .int .i64 a] w (NxRes s a w) := by
  by_cases hin : 0 ≤ a ∧ a ≤ s.size
  · obtain ⟨k, rfl⟩ : ∃ k : Nat, a = k := ⟨a.toNat, by omega⟩
    have hk : k ≤ s.size := by omega
    clear hin h0 h1
    obtain ⟨b, hb⟩ : ∃ b, skp s k = b := ⟨_, rfl⟩
    have hbs : b ≤ s.size := by have := (skp_le hk).1; omega
    by_cases he : b = s.size
    · have SK : Hid (∀ w, Calls Try.prog 23 #[.string s, .int .i64 (k : Int)] w fun e w' => e = .returned (.int .i64 (b : Int)) ∧ w = w') := fun w => by
        have := rskip_any s k w (by unfold maxLen; omega) hk; rwa [hb] at this
      have R := Lib.hid (nx_1 hk (hb.trans he))
      subst he
      clear hb
      go_enter Try.func12, Try.ntmps12
      go_wp2_with fail
      with_reducible refine (SK.out _).mono ?_
      rintro e w1 ⟨rfl, rfl⟩
      go_upto_region 5 with (fail)
      ((try simp only []); (repeat (first | go_values | go_skip | go_guarded | go_step | go_upon | go_in)))
      refine bodyPost_ret (v := .tuple #[.agg #[.int .i64 0, .string ⟨#[]⟩, .int .i64 s.size], .int .i64 s.size, .int .i64 0]) ?_ rfl (nx_ret R.out ?_)
      · simp [results, Try.results12, go_sem]
      · (show Rel _ _; repeat (first | with_reducible exact Rel.refl _ | with_reducible refine Rel.alloc ?_ _ | with_reducible refine Rel.setCell ?_ (by first | (simp; done) | (simp; omega)) _ | with_reducible refine Rel.drew ?_ | with_reducible refine Rel.trans ?_ H1.out | with_reducible refine Rel.trans ?_ H0.out))
    · have hbl : b < s.size := by omega
      cases hl : low s[b]
      · cases hd : dgb s[b]
        · by_cases h64 : (s[b].toNat : Int) = 64
          · exact rNext_d s k b w hs hk hb hbl hl hd h64
          · exact rNext_s s k b w hs hk hb hbl hl hd h64
        · exact rNext_n s k b w hs hk hb hbl hl hd
      · exact rNext_w s k b w hs hk hb hbl hl
  · have R := Lib.hid (nx_0 (s := s) (a := a) (by omega))
    rcases (show a < 0 ∨ (¬ a < 0 ∧ (s.size : Int) < a) by omega) with hc | ⟨hc, hc2⟩
    all_goals
      clear hin
      go_enter Try.func12, Try.ntmps12
      go_upto_region 2 with (fail)
      ((try simp only []); (repeat (first | go_values | go_skip | go_guarded | go_step | go_upon | go_in)))
      refine bodyPost_ret (v := .tuple #[.agg #[.int .i64 0, .string ⟨#[]⟩, .int .i64 0], .int .i64 0, .int .i64 1]) ?_ rfl (nx_ret R.out ?_)
      · simp [results, Try.results12, go_sem]
      · (show Rel _ _; repeat (first | with_reducible exact Rel.refl _ | with_reducible refine Rel.alloc ?_ _ | with_reducible refine Rel.setCell ?_ (by first | (simp; done) | (simp; omega)) _ | with_reducible refine Rel.drew ?_ | with_reducible refine Rel.trans ?_ H1.out | with_reducible refine Rel.trans ?_ H0.out))

end Go.Proofs.Ytfdajdlbkdfhoaa
