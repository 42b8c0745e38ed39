/- Walks: words. Printed by wip/walks/kinds2.py. -/
import Derived.Test.YtohfnpmehgpphaaTab
import Derived.Test.YtohfnpmehgpphaaBox
import Derived.Test.YtohfnpmehgpphaaPlainU
namespace Go.Proofs.Ytohfnpmehgpphaa
open Go Rw Go.RowKit
set_option maxRecDepth 4000

/-- A small letter? -/
theorem small_spec (w : World) (c : UInt8) :
    Calls Try.prog 117 #[.int .u8 (c.toNat : Int)] w (Ret fun r w' => r = .bool (smallB c) ∧ w = w') := by
  refine c_enter (n := 9) Try.func117 rfl rfl rfl ?_
  refine q0 (l_p 1 tbOk rfl (q1 (q0 (l_p 3 tbOk rfl ?_))))
  refine l_splitP 5 _ rfl (fun c1 => ?_) (fun c1 => ?_)
  · refine l_p 4 tbOk rfl (q1 (c_ret (x_ret1 rfl rfl ?_)))
    exact ⟨by congr 1; rw [Bool.eq_iff_iff]; simp [smallB] <;> omega, rfl⟩
  refine l_p 4 tbOk rfl (q1 (c_ret (x_ret1 rfl rfl ?_)))
  exact ⟨by congr 1; rw [Bool.eq_iff_iff]; simp [smallB] <;> omega, rfl⟩

/-- A digit? -/
theorem digit_spec (w : World) (c : UInt8) :
    Calls Try.prog 118 #[.int .u8 (c.toNat : Int)] w (Ret fun r w' => r = .bool (digitB c) ∧ w = w') := by
  refine c_enter (n := 9) Try.func118 rfl rfl rfl ?_
  refine q0 (l_p 1 tbOk rfl (q1 (q0 (l_p 3 tbOk rfl ?_))))
  refine l_splitP 5 _ rfl (fun c1 => ?_) (fun c1 => ?_)
  · refine l_p 4 tbOk rfl (q1 (c_ret (x_ret1 rfl rfl ?_)))
    exact ⟨by congr 1; rw [Bool.eq_iff_iff]; simp [digitB] <;> omega, rfl⟩
  refine l_p 4 tbOk rfl (q1 (c_ret (x_ret1 rfl rfl ?_)))
  exact ⟨by congr 1; rw [Bool.eq_iff_iff]; simp [digitB] <;> omega, rfl⟩

/-- A byte's kind. -/
theorem kind_spec (w : World) (c : UInt8) :
    Calls Try.prog 97 #[.int .u8 (c.toNat : Int)] w (Ret fun r w' => r = .int .i64 (kindN c) ∧ w = w') := by
  refine c_enter (n := 27) Try.func97 rfl rfl rfl ?_
  refine q0 (l_p 1 tbOk rfl (q1 (c_seq (c_blk (q0 (l_p 3 tbOk rfl ?_))))))
  refine l_splitP 6 _ rfl (fun c1 => ?_) (fun c1 => ?_)
  · refine l_p 4 tbOk rfl (q1 ?_)
    refine c_ifP _ rfl (fun c2 => ?_) (fun c2 => ?_)
    · refine q0 (l_p 1 tbOk rfl (q1 (c_ret (x_blkR (x_seqR (x_ret1 rfl rfl ?_))))))
      exact ⟨by congr 1; unfold kindN; (repeat' split) <;> omega, rfl⟩
    refine q0 (l_p 3 tbOk rfl ?_)
    refine l_splitP 13 _ rfl (fun c3 => ?_) (fun c3 => ?_)
    · refine l_p 4 tbOk rfl (q1 ?_)
      refine c_ifP _ rfl (fun c4 => ?_) (fun c4 => ?_)
      · refine q0 (l_p 1 tbOk rfl (q1 (c_ret (x_blkR (x_seqR (x_ret1 rfl rfl ?_))))))
        exact ⟨by congr 1; unfold kindN; (repeat' split) <;> omega, rfl⟩
      refine q0 (l_p 3 tbOk rfl ?_)
      refine l_splitP 20 _ rfl (fun c5 => ?_) (fun c5 => ?_)
      · refine l_p 4 tbOk rfl (q1 ?_)
        refine c_ifP _ rfl (fun c6 => ?_) (fun c6 => ?_)
        · refine q0 (l_p 1 tbOk rfl (q1 (c_ret (x_blkR (x_seqR (x_ret1 rfl rfl ?_))))))
          exact ⟨by congr 1; unfold kindN; (repeat' split) <;> omega, rfl⟩
        refine q0 (l_p 3 tbOk rfl (q1 ?_))
        refine c_ifP _ rfl (fun c7 => ?_) (fun c7 => ?_)
        · refine q0 (l_p 1 tbOk rfl (q1 (c_ret (x_blkR (x_seqR (x_ret1 rfl rfl ?_))))))
          exact ⟨by congr 1; unfold kindN; (repeat' split) <;> omega, rfl⟩
        refine c_skip (x_blk (x_seq (q0 (l_p 1 tbOk rfl (q1 (c_ret (x_ret1 rfl rfl ?_)))))))
        exact ⟨by congr 1; unfold kindN; (repeat' split) <;> omega, rfl⟩
      refine l_p 4 tbOk rfl (q1 (c_ifF rfl (q0 (l_p 3 tbOk rfl (q1 ?_)))))
      refine c_ifP _ rfl (fun c8 => ?_) (fun c8 => ?_)
      · refine q0 (l_p 1 tbOk rfl (q1 (c_ret (x_blkR (x_seqR (x_ret1 rfl rfl ?_))))))
        exact ⟨by congr 1; unfold kindN; (repeat' split) <;> omega, rfl⟩
      refine c_skip (x_blk (x_seq (q0 (l_p 1 tbOk rfl (q1 (c_ret (x_ret1 rfl rfl ?_)))))))
      exact ⟨by congr 1; unfold kindN; (repeat' split) <;> omega, rfl⟩
    refine l_p 4 tbOk rfl (q1 (c_ifF rfl (q0 (l_p 3 tbOk rfl ?_))))
    refine l_splitP 20 _ rfl (fun c9 => ?_) (fun c9 => ?_)
    · refine l_p 4 tbOk rfl (q1 ?_)
      refine c_ifP _ rfl (fun c10 => ?_) (fun c10 => ?_)
      · refine q0 (l_p 1 tbOk rfl (q1 (c_ret (x_blkR (x_seqR (x_ret1 rfl rfl ?_))))))
        exact ⟨by congr 1; unfold kindN; (repeat' split) <;> omega, rfl⟩
      refine q0 (l_p 3 tbOk rfl (q1 ?_))
      refine c_ifP _ rfl (fun c11 => ?_) (fun c11 => ?_)
      · refine q0 (l_p 1 tbOk rfl (q1 (c_ret (x_blkR (x_seqR (x_ret1 rfl rfl ?_))))))
        exact ⟨by congr 1; unfold kindN; (repeat' split) <;> omega, rfl⟩
      refine c_skip (x_blk (x_seq (q0 (l_p 1 tbOk rfl (q1 (c_ret (x_ret1 rfl rfl ?_)))))))
      exact ⟨by congr 1; unfold kindN; (repeat' split) <;> omega, rfl⟩
    refine l_p 4 tbOk rfl (q1 (c_ifF rfl (q0 (l_p 3 tbOk rfl (q1 ?_)))))
    refine c_ifP _ rfl (fun c12 => ?_) (fun c12 => ?_)
    · refine q0 (l_p 1 tbOk rfl (q1 (c_ret (x_blkR (x_seqR (x_ret1 rfl rfl ?_))))))
      exact ⟨by congr 1; unfold kindN; (repeat' split) <;> omega, rfl⟩
    refine c_skip (x_blk (x_seq (q0 (l_p 1 tbOk rfl (q1 (c_ret (x_ret1 rfl rfl ?_)))))))
    exact ⟨by congr 1; unfold kindN; (repeat' split) <;> omega, rfl⟩
  refine l_p 4 tbOk rfl (q1 (c_ifF rfl (q0 (l_p 3 tbOk rfl ?_))))
  refine l_splitP 13 _ rfl (fun c13 => ?_) (fun c13 => ?_)
  · refine l_p 4 tbOk rfl (q1 ?_)
    refine c_ifP _ rfl (fun c14 => ?_) (fun c14 => ?_)
    · refine q0 (l_p 1 tbOk rfl (q1 (c_ret (x_blkR (x_seqR (x_ret1 rfl rfl ?_))))))
      exact ⟨by congr 1; unfold kindN; (repeat' split) <;> omega, rfl⟩
    refine q0 (l_p 3 tbOk rfl ?_)
    refine l_splitP 20 _ rfl (fun c15 => ?_) (fun c15 => ?_)
    · refine l_p 4 tbOk rfl (q1 ?_)
      refine c_ifP _ rfl (fun c16 => ?_) (fun c16 => ?_)
      · refine q0 (l_p 1 tbOk rfl (q1 (c_ret (x_blkR (x_seqR (x_ret1 rfl rfl ?_))))))
        exact ⟨by congr 1; unfold kindN; (repeat' split) <;> omega, rfl⟩
      refine q0 (l_p 3 tbOk rfl (q1 ?_))
      refine c_ifP _ rfl (fun c17 => ?_) (fun c17 => ?_)
      · refine q0 (l_p 1 tbOk rfl (q1 (c_ret (x_blkR (x_seqR (x_ret1 rfl rfl ?_))))))
        exact ⟨by congr 1; unfold kindN; (repeat' split) <;> omega, rfl⟩
      refine c_skip (x_blk (x_seq (q0 (l_p 1 tbOk rfl (q1 (c_ret (x_ret1 rfl rfl ?_)))))))
      exact ⟨by congr 1; unfold kindN; (repeat' split) <;> omega, rfl⟩
    refine l_p 4 tbOk rfl (q1 (c_ifF rfl (q0 (l_p 3 tbOk rfl (q1 ?_)))))
    refine c_ifP _ rfl (fun c18 => ?_) (fun c18 => ?_)
    · refine q0 (l_p 1 tbOk rfl (q1 (c_ret (x_blkR (x_seqR (x_ret1 rfl rfl ?_))))))
      exact ⟨by congr 1; unfold kindN; (repeat' split) <;> omega, rfl⟩
    refine c_skip (x_blk (x_seq (q0 (l_p 1 tbOk rfl (q1 (c_ret (x_ret1 rfl rfl ?_)))))))
    exact ⟨by congr 1; unfold kindN; (repeat' split) <;> omega, rfl⟩
  refine l_p 4 tbOk rfl (q1 (c_ifF rfl (q0 (l_p 3 tbOk rfl ?_))))
  refine l_splitP 20 _ rfl (fun c19 => ?_) (fun c19 => ?_)
  · refine l_p 4 tbOk rfl (q1 ?_)
    refine c_ifP _ rfl (fun c20 => ?_) (fun c20 => ?_)
    · refine q0 (l_p 1 tbOk rfl (q1 (c_ret (x_blkR (x_seqR (x_ret1 rfl rfl ?_))))))
      exact ⟨by congr 1; unfold kindN; (repeat' split) <;> omega, rfl⟩
    refine q0 (l_p 3 tbOk rfl (q1 ?_))
    refine c_ifP _ rfl (fun c21 => ?_) (fun c21 => ?_)
    · refine q0 (l_p 1 tbOk rfl (q1 (c_ret (x_blkR (x_seqR (x_ret1 rfl rfl ?_))))))
      exact ⟨by congr 1; unfold kindN; (repeat' split) <;> omega, rfl⟩
    refine c_skip (x_blk (x_seq (q0 (l_p 1 tbOk rfl (q1 (c_ret (x_ret1 rfl rfl ?_)))))))
    exact ⟨by congr 1; unfold kindN; (repeat' split) <;> omega, rfl⟩
  refine l_p 4 tbOk rfl (q1 (c_ifF rfl (q0 (l_p 3 tbOk rfl (q1 ?_)))))
  refine c_ifP _ rfl (fun c22 => ?_) (fun c22 => ?_)
  · refine q0 (l_p 1 tbOk rfl (q1 (c_ret (x_blkR (x_seqR (x_ret1 rfl rfl ?_))))))
    exact ⟨by congr 1; unfold kindN; (repeat' split) <;> omega, rfl⟩
  refine c_skip (x_blk (x_seq (q0 (l_p 1 tbOk rfl (q1 (c_ret (x_ret1 rfl rfl ?_)))))))
  exact ⟨by congr 1; unfold kindN; (repeat' split) <;> omega, rfl⟩

/-- own: a word of the language? -/
theorem own_spec (w : World) (s : ByteArray) :
    Calls Try.prog 95 #[.string s] w (Ret fun r w' => r = .bool (ownB s) ∧ w = w') := by
  refine c_enter (n := 20) Try.func95 rfl rfl rfl ?_
  refine q0 (l_p 1 tbOk rfl (q1 (c_seq (q0 (l_p 1 tbOk rfl (q1 (c_blk (c_seq (q0 (l_p 2 tbOk rfl (q1 ?_)))))))))))
  refine c_splitP 4 _ rfl (fun c1 => c_ifT rfl ?_) (fun c1 => c_ifF rfl ?_)
  · refine c_skip (x_seq (c_ifT rfl (q0 (l_p 1 tbOk rfl (q1 (c_ret (x_blkR (x_seqR (x_ret1 rfl rfl ?_)))))))))
    exact ⟨by simp [ownB, ownW, *], rfl⟩
  refine q0 (l_p 2 tbOk rfl (q1 ?_))
  refine c_splitP 4 _ rfl (fun c2 => c_ifT rfl ?_) (fun c2 => c_ifF rfl ?_)
  · refine c_skip (x_seq (c_ifT rfl (q0 (l_p 1 tbOk rfl (q1 (c_ret (x_blkR (x_seqR (x_ret1 rfl rfl ?_)))))))))
    exact ⟨by simp [ownB, ownW, *], rfl⟩
  refine q0 (l_p 2 tbOk rfl (q1 ?_))
  refine c_splitP 4 _ rfl (fun c3 => c_ifT rfl ?_) (fun c3 => c_ifF rfl ?_)
  · refine c_skip (x_seq (c_ifT rfl (q0 (l_p 1 tbOk rfl (q1 (c_ret (x_blkR (x_seqR (x_ret1 rfl rfl ?_)))))))))
    exact ⟨by simp [ownB, ownW, *], rfl⟩
  refine q0 (l_p 2 tbOk rfl (q1 ?_))
  refine c_splitP 4 _ rfl (fun c4 => c_ifT rfl ?_) (fun c4 => c_ifF rfl ?_)
  · refine c_skip (x_seq (c_ifT rfl (q0 (l_p 1 tbOk rfl (q1 (c_ret (x_blkR (x_seqR (x_ret1 rfl rfl ?_)))))))))
    exact ⟨by simp [ownB, ownW, *], rfl⟩
  refine q0 (l_p 2 tbOk rfl (q1 ?_))
  refine c_splitP 4 _ rfl (fun c5 => c_ifT rfl ?_) (fun c5 => c_ifF rfl ?_)
  · refine c_skip (x_seq (c_ifT rfl (q0 (l_p 1 tbOk rfl (q1 (c_ret (x_blkR (x_seqR (x_ret1 rfl rfl ?_)))))))))
    exact ⟨by simp [ownB, ownW, *], rfl⟩
  refine q0 (l_p 2 tbOk rfl (q1 ?_))
  refine c_splitP 4 _ rfl (fun c6 => c_ifT rfl ?_) (fun c6 => c_ifF rfl ?_)
  · refine c_skip (x_seq (c_ifT rfl (q0 (l_p 1 tbOk rfl (q1 (c_ret (x_blkR (x_seqR (x_ret1 rfl rfl ?_)))))))))
    exact ⟨by simp [ownB, ownW, *], rfl⟩
  refine q0 (l_p 2 tbOk rfl (q1 ?_))
  refine c_splitP 4 _ rfl (fun c7 => c_ifT rfl ?_) (fun c7 => c_ifF rfl ?_)
  · refine c_skip (x_seq (c_ifT rfl (q0 (l_p 1 tbOk rfl (q1 (c_ret (x_blkR (x_seqR (x_ret1 rfl rfl ?_)))))))))
    exact ⟨by simp [ownB, ownW, *], rfl⟩
  refine q0 (l_p 2 tbOk rfl (q1 ?_))
  refine c_splitP 4 _ rfl (fun c8 => c_ifT rfl ?_) (fun c8 => c_ifF rfl ?_)
  · refine c_skip (x_seq (c_ifT rfl (q0 (l_p 1 tbOk rfl (q1 (c_ret (x_blkR (x_seqR (x_ret1 rfl rfl ?_)))))))))
    exact ⟨by simp [ownB, ownW, *], rfl⟩
  refine q0 (l_p 2 tbOk rfl (q1 ?_))
  refine c_splitP 4 _ rfl (fun c9 => c_ifT rfl ?_) (fun c9 => c_ifF rfl ?_)
  · refine c_skip (x_seq (c_ifT rfl (q0 (l_p 1 tbOk rfl (q1 (c_ret (x_blkR (x_seqR (x_ret1 rfl rfl ?_)))))))))
    exact ⟨by simp [ownB, ownW, *], rfl⟩
  refine q0 (l_p 2 tbOk rfl (q1 ?_))
  refine c_splitP 4 _ rfl (fun c10 => c_ifT rfl ?_) (fun c10 => c_ifF rfl ?_)
  · refine c_skip (x_seq (c_ifT rfl (q0 (l_p 1 tbOk rfl (q1 (c_ret (x_blkR (x_seqR (x_ret1 rfl rfl ?_)))))))))
    exact ⟨by simp [ownB, ownW, *], rfl⟩
  refine q0 (l_p 2 tbOk rfl (q1 ?_))
  refine c_splitP 4 _ rfl (fun c11 => c_ifT rfl ?_) (fun c11 => c_ifF rfl ?_)
  · refine c_skip (x_seq (c_ifT rfl (q0 (l_p 1 tbOk rfl (q1 (c_ret (x_blkR (x_seqR (x_ret1 rfl rfl ?_)))))))))
    exact ⟨by simp [ownB, ownW, *], rfl⟩
  refine q0 (l_p 2 tbOk rfl (q1 ?_))
  refine c_splitP 4 _ rfl (fun c12 => c_ifT rfl ?_) (fun c12 => c_ifF rfl ?_)
  · refine c_skip (x_seq (c_ifT rfl (q0 (l_p 1 tbOk rfl (q1 (c_ret (x_blkR (x_seqR (x_ret1 rfl rfl ?_)))))))))
    exact ⟨by simp [ownB, ownW, *], rfl⟩
  refine q0 (l_p 2 tbOk rfl (q1 ?_))
  refine c_splitP 4 _ rfl (fun c13 => c_ifT rfl ?_) (fun c13 => c_ifF rfl ?_)
  · refine c_skip (x_seq (c_ifT rfl (q0 (l_p 1 tbOk rfl (q1 (c_ret (x_blkR (x_seqR (x_ret1 rfl rfl ?_)))))))))
    exact ⟨by simp [ownB, ownW, *], rfl⟩
  refine q0 (l_p 2 tbOk rfl (q1 ?_))
  refine c_splitP 4 _ rfl (fun c14 => c_ifT rfl ?_) (fun c14 => c_ifF rfl ?_)
  · refine c_skip (x_seq (c_ifT rfl (q0 (l_p 1 tbOk rfl (q1 (c_ret (x_blkR (x_seqR (x_ret1 rfl rfl ?_)))))))))
    exact ⟨by simp [ownB, ownW, *], rfl⟩
  refine c_reg (l_p 2 tbOk rfl (q1 ?_))
  refine c_splitP 4 _ rfl (fun c15 => c_ifT rfl ?_) (fun c15 => c_ifF rfl ?_)
  · refine q0 (l_p 1 tbOk rfl (q1 (c_ret (x_blkR (x_seqR (x_ret1 rfl rfl ?_))))))
    exact ⟨by simp [ownB, ownW, *], rfl⟩
  refine c_skip (x_blk (x_seq (q0 (l_p 1 tbOk rfl (q1 (c_ret (x_ret1 rfl rfl ?_)))))))
  exact ⟨by simp [ownB, ownW, *], rfl⟩

/-- wordly. -/
theorem wordly_spec (w : World) (s : ByteArray) (hs : s.size < 140737488355328) :
    Calls Try.prog 94 #[.string s] w (Ret fun r w' => r = .bool (wordlyB s) ∧ w = w') := by
  refine c_enter (n := 32) Try.func94 rfl rfl rfl ?_
  refine q0 (l_p 1 tbOk rfl (q1 (c_seq (q0 (l_p 3 tbOk rfl (q1 (c_blk ?_)))))))
  refine c_loop (X := Nat) (fun i => [(0, .string s), (6, .int .i64 (s.size : Int)), (7, .int .i64 (i : Nat))]) (fun i w' => w = w' ∧ i ≤ s.size ∧ ∀ j, j < i → wordAt s j = true) (fun i => s.size - i) (0) (s3 rfl rfl rfl) ?_ ?_
  · exact ⟨rfl, Nat.zero_le _, fun j hj => absurd hj (Nat.not_lt_zero _)⟩
  rintro i _ ⟨rfl, hi, hall⟩
  refine q0 (l_p 1 tbOk rfl (q1 (c_seq ?_)))
  refine c_ifP _ rfl (fun c1 => ?_) (fun c1 => ?_)
  · refine c_skip (x_seq (c_seq (c_blk (q0 (l_p 2 tbOk rfl (q1 (q0 (l_p 2 tbOk rfl ?_))))))))
    have his : i < s.size := by omega
    have hd : s.data[i]? = some s.data[i] := Array.getElem?_eq_getElem his
    generalize hcc : s.data[i] = ch at hd
    refine l_cons (o_si tbOk rfl rfl rfl rfl rfl hd rfl rfl ?_)
    refine l_p 1 tbOk rfl (q1 (q0 (l_p 1 tbOk rfl ?_)))
    refine l_cons (o_call fo117 rfl rfl rfl (small_spec _ ch) ?_)
    rintro _ _ ⟨rfl, rfl⟩
    refine l_p 2 tbOk rfl ?_
    refine l_splitB 16 _ rfl (fun c2 => ?_) (fun c2 => ?_)
    · refine l_p 3 tbOk rfl ?_
      refine l_splitP 19 _ rfl (fun c3 => ?_) (fun c3 => ?_)
      · refine l_p 9 tbOk rfl (q1 (c_ifT rfl (q0 (l_p 1 tbOk rfl (q1 (c_ret (x_blkR (x_seqR (x_seqR (x_blkR (x_seqR (x_ret1 rfl rfl ?_))))))))))))
        first
        | exact ⟨by rw [word_all (by omega) hall]; congr 1; rw [Bool.eq_iff_iff]; simp only [size_zero, ne_eq, Bool.not_eq_true', decide_eq_false_iff_not, decide_eq_true_eq], rfl⟩
        | exact ⟨by rw [word_no (i := i) (by omega) (by simp_all [wordAt] <;> omega)], rfl⟩
      refine l_p 1 tbOk rfl ?_
      refine l_cons (o_call fo118 rfl rfl rfl (digit_spec _ ch) ?_)
      rintro _ _ ⟨rfl, rfl⟩
      refine l_p 2 tbOk rfl ?_
      refine l_splitB 23 _ rfl (fun c4 => ?_) (fun c4 => ?_)
      · refine l_p 5 tbOk rfl (q1 ?_)
        refine c_ifN _ rfl (fun c5 => ?_) (fun c5 => ?_)
        · refine q0 (l_p 1 tbOk rfl (q1 (c_ret (x_blkR (x_seqR (x_seqR (x_blkR (x_seqR (x_ret1 rfl rfl ?_)))))))))
          first
          | exact ⟨by rw [word_all (by omega) hall]; congr 1; rw [Bool.eq_iff_iff]; simp only [size_zero, ne_eq, Bool.not_eq_true', decide_eq_false_iff_not, decide_eq_true_eq], rfl⟩
          | exact ⟨by rw [word_no (i := i) (by omega) (by simp_all [wordAt] <;> omega)], rfl⟩
        refine c_skip (x_blk (x_seq (c_reg ?_)))
        refine l_cons (o_ar rfl rfl rfl (IntWalk.i64_in _ (by omega)) rfl rfl ?_)
        refine l_p 1 tbOk rfl (l_nil ?_)
        exact x_round (i + 1) (s3 rfl rfl rfl) ⟨rfl, by omega, word_step hall (by simp_all [wordAt] <;> omega)⟩ (by omega)
      refine l_p 5 tbOk rfl (q1 (c_ifF rfl (c_skip (x_blk (x_seq (c_reg ?_))))))
      refine l_cons (o_ar rfl rfl rfl (IntWalk.i64_in _ (by omega)) rfl rfl ?_)
      refine l_p 1 tbOk rfl (l_nil ?_)
      exact x_round (i + 1) (s3 rfl rfl rfl) ⟨rfl, by omega, word_step hall (by simp_all [wordAt] <;> omega)⟩ (by omega)
    refine l_p 12 tbOk rfl (q1 (c_ifF rfl (c_skip (x_blk (x_seq (c_reg ?_))))))
    refine l_cons (o_ar rfl rfl rfl (IntWalk.i64_in _ (by omega)) rfl rfl ?_)
    refine l_p 1 tbOk rfl (l_nil ?_)
    exact x_round (i + 1) (s3 rfl rfl rfl) ⟨rfl, by omega, word_step hall (by simp_all [wordAt] <;> omega)⟩ (by omega)
  refine c_exit (x_seqE (x_seqE (x_blkE (x_seq (q0 (l_p 3 tbOk rfl (q1 (c_ret (x_ret1 rfl rfl ?_)))))))))
  first
  | exact ⟨by rw [word_all (by omega) hall]; congr 1; rw [Bool.eq_iff_iff]; simp only [size_zero, ne_eq, Bool.not_eq_true', decide_eq_false_iff_not, decide_eq_true_eq], rfl⟩
  | exact ⟨by rw [word_no (i := i) (by omega) (by simp_all [wordAt] <;> omega)], rfl⟩

/-- IsWord: a name? -/
theorem isWord_spec (w : World) (s : ByteArray) (hs : s.size < 140737488355328) :
    Calls Try.prog 57 #[.string s] w (Ret fun r w' => r = .bool (isWordB s) ∧ w = w') := by
  refine c_enter (n := 15) Try.func57 rfl rfl rfl ?_
  refine q0 (l_p 1 tbOk rfl (q1 (q0 (l_p 4 tbOk rfl ?_))))
  refine l_splitP 6 _ rfl (fun c1 => ?_) (fun c1 => ?_)
  · refine l_p 1 tbOk rfl ?_
    refine l_cons (o_call fo94 rfl rfl rfl (wordly_spec _ s hs) ?_)
    rintro _ _ ⟨rfl, rfl⟩
    refine l_p 2 tbOk rfl ?_
    refine l_split 10 _ rfl (fun c2 => ?_) (fun c2 => ?_)
    · refine l_p 1 tbOk rfl ?_
      refine l_cons (o_call fo95 rfl rfl rfl (own_spec _ s) ?_)
      rintro _ _ ⟨rfl, rfl⟩
      refine l_p 3 tbOk rfl (q1 (c_ret (x_ret1 rfl rfl ?_)))
      exact ⟨by unfold isWordB; by_cases h32 : s.size ≤ 32 <;> simp_all <;> omega, rfl⟩
    refine l_p 5 tbOk rfl (q1 (c_ret (x_ret1 rfl rfl ?_)))
    exact ⟨by unfold isWordB; by_cases h32 : s.size ≤ 32 <;> simp_all <;> omega, rfl⟩
  refine l_p 9 tbOk rfl (q1 (c_ret (x_ret1 rfl rfl ?_)))
  exact ⟨by unfold isWordB; by_cases h32 : s.size ≤ 32 <;> simp_all <;> omega, rfl⟩

/-- Is a word in a list? -/
theorem in2_spec (M : Nat → Prop) (w : World) (v : Value) (l : List ByteArray) (s : ByteArray) (hl : Sl M w v l) :
    Calls Try.prog 64 #[v, .string s] w (Ret fun r w' => r = .bool (l.any fun x => decide (s = x)) ∧ w = w') := by
  have hlt := hl.lt
  refine c_enter (n := 18) Try.func64 rfl rfl rfl ?_
  refine q0 (l_p 1 tbOk rfl (q1 (c_seq (q0 (l_p 1 tbOk rfl (q1 (c_blk ?_)))))))
  refine c_loop (X := Nat) (fun i => [(0, v), (1, .string s), (5, .int .i64 (i : Nat))]) (fun i w' => w = w' ∧ i ≤ l.length ∧ ∀ (j : Nat) x, j < i → l[j]? = some x → decide (s = x) = false) (fun i => l.length - i) (0) (s3 rfl rfl rfl) ?_ ?_
  · exact ⟨rfl, Nat.zero_le _, fun j x hj => absurd hj (Nat.not_lt_zero _)⟩
  rintro i _ ⟨rfl, hi, hno⟩
  refine c_seq (q0 (l_p 2 tbOk rfl ?_))
  refine l_cons (o_len tbOk hl rfl rfl rfl rfl rfl ?_)
  refine l_p 1 tbOk rfl (q1 ?_)
  refine c_ifP _ rfl (fun c1 => ?_) (fun c1 => ?_)
  · refine c_skip (x_seq (c_seq (c_blk (q0 (l_p 2 tbOk rfl ?_)))))
    have hil : i < l.length := by omega
    refine l_cons (o_ixS tbOk hl (List.getElem?_eq_getElem hil) rfl rfl rfl rfl rfl rfl rfl rfl rfl ?_)
    intro b o u hr hat
    obtain ⟨rfl, _⟩ := hr
    refine l_cons (o_ld tbOk (hat.cell 0 _ rfl) rfl rfl rfl rfl rfl ?_)
    refine l_p 2 tbOk rfl (q1 ?_)
    refine c_ifP _ rfl (fun c2 => ?_) (fun c2 => ?_)
    · refine q0 (l_p 1 tbOk rfl (q1 (c_ret (x_blkR (x_seqR (x_seqR (x_blkR (x_seqR (x_ret1 rfl rfl ?_)))))))))
      first
      | exact ⟨by rw [List.any_eq_true.2 ⟨l[i], List.getElem_mem hil, by simp [*]⟩], rfl⟩
      | exact ⟨by rw [any_no (by omega) hno], rfl⟩
    refine c_skip (x_blk (x_seq (c_reg (l_p 1 tbOk rfl ?_))))
    refine l_cons (o_ar rfl rfl rfl (IntWalk.i64_in _ (by omega)) rfl rfl ?_)
    refine l_p 1 tbOk rfl (l_nil ?_)
    exact x_round (i + 1) (s3 rfl rfl rfl) ⟨rfl, by omega, idx_step hno hil (by simpa [eq_comm] using c2)⟩ (by omega)
  refine c_exit (x_seqE (x_seqE (x_blkE (x_seq (q0 (l_p 1 tbOk rfl (q1 (c_ret (x_ret1 rfl rfl ?_)))))))))
  first
  | exact ⟨by rw [List.any_eq_true.2 ⟨l[i], List.getElem_mem hil, by simp [*]⟩], rfl⟩
  | exact ⟨by rw [any_no (by omega) hno], rfl⟩

/-- Wordly. -/
theorem rwordly_spec (w : World) (s : ByteArray) (hs : s.size < 140737488355328) :
    Calls Try.prog 63 #[.string s] w (Ret fun r w' => r = .bool (wordlyB s) ∧ w = w') := by
  refine c_enter (n := 32) Try.func63 rfl rfl rfl ?_
  refine q0 (l_p 1 tbOk rfl (q1 (c_seq (q0 (l_p 1 tbOk rfl (q1 (c_blk ?_)))))))
  refine c_loop (X := Nat) (fun i => [(0, .string s), (3, .int .i64 (i : Nat))]) (fun i w' => w = w' ∧ i ≤ s.size ∧ ∀ j, j < i → wordAt s j = true) (fun i => s.size - i) (0) (s2 rfl rfl) ?_ ?_
  · exact ⟨rfl, Nat.zero_le _, fun j hj => absurd hj (Nat.not_lt_zero _)⟩
  rintro i _ ⟨rfl, hi, hall⟩
  refine c_seq (q0 (l_p 4 tbOk rfl (q1 ?_)))
  refine c_ifP _ rfl (fun c1 => ?_) (fun c1 => ?_)
  · refine c_skip (x_seq (c_seq (c_blk (q0 (l_p 2 tbOk rfl ?_)))))
    have his : i < s.size := by omega
    have hd : s.data[i]? = some s.data[i] := Array.getElem?_eq_getElem his
    generalize hcc : s.data[i] = ch at hd
    refine l_cons (o_si tbOk rfl rfl rfl rfl rfl hd rfl rfl ?_)
    refine l_cons (o_call fo97 rfl rfl rfl (kind_spec _ ch) ?_)
    rintro _ _ ⟨rfl, rfl⟩
    refine l_p 1 tbOk rfl (q1 (q0 (l_p 3 tbOk rfl ?_)))
    refine l_splitP 17 _ rfl (fun c2 => ?_) (fun c2 => ?_)
    · refine l_p 11 tbOk rfl (q1 (c_ifT rfl (q0 (l_p 1 tbOk rfl (q1 (c_ret (x_blkR (x_seqR (x_seqR (x_blkR (x_seqR (x_ret1 rfl rfl ?_))))))))))))
      first
      | exact ⟨by rw [word_all (by omega) hall]; congr 1; rw [Bool.eq_iff_iff]; simp only [ne_eq, decide_eq_true_eq]; omega, rfl⟩
      | exact ⟨by rw [word_no (i := i) (by omega) (by rw [word_kind hd]; simp_all)], rfl⟩
    refine l_p 4 tbOk rfl ?_
    refine l_splitP 21 _ rfl (fun c3 => ?_) (fun c3 => ?_)
    · refine l_p 7 tbOk rfl (q1 (c_ifT rfl (q0 (l_p 1 tbOk rfl (q1 (c_ret (x_blkR (x_seqR (x_seqR (x_blkR (x_seqR (x_ret1 rfl rfl ?_))))))))))))
      first
      | exact ⟨by rw [word_all (by omega) hall]; congr 1; rw [Bool.eq_iff_iff]; simp only [ne_eq, decide_eq_true_eq]; omega, rfl⟩
      | exact ⟨by rw [word_no (i := i) (by omega) (by rw [word_kind hd]; simp_all)], rfl⟩
    refine l_p 3 tbOk rfl ?_
    refine l_splitP 24 _ rfl (fun c4 => ?_) (fun c4 => ?_)
    · refine l_p 4 tbOk rfl (q1 ?_)
      refine c_ifN _ rfl (fun c5 => ?_) (fun c5 => ?_)
      · refine q0 (l_p 1 tbOk rfl (q1 (c_ret (x_blkR (x_seqR (x_seqR (x_blkR (x_seqR (x_ret1 rfl rfl ?_)))))))))
        first
        | exact ⟨by rw [word_all (by omega) hall]; congr 1; rw [Bool.eq_iff_iff]; simp only [ne_eq, decide_eq_true_eq]; omega, rfl⟩
        | exact ⟨by rw [word_no (i := i) (by omega) (by rw [word_kind hd]; simp_all)], rfl⟩
      refine c_skip (x_blk (x_seq (c_reg (l_p 1 tbOk rfl ?_))))
      refine l_cons (o_ar rfl rfl rfl (IntWalk.i64_in _ (by omega)) rfl rfl ?_)
      refine l_p 1 tbOk rfl (l_nil ?_)
      exact x_round (i + 1) (s2 rfl rfl) ⟨rfl, by omega, word_step hall (by rw [word_kind hd]; simp_all)⟩ (by omega)
    refine l_p 4 tbOk rfl (q1 (c_ifF rfl (c_skip (x_blk (x_seq (c_reg (l_p 1 tbOk rfl ?_)))))))
    refine l_cons (o_ar rfl rfl rfl (IntWalk.i64_in _ (by omega)) rfl rfl ?_)
    refine l_p 1 tbOk rfl (l_nil ?_)
    exact x_round (i + 1) (s2 rfl rfl) ⟨rfl, by omega, word_step hall (by rw [word_kind hd]; simp_all)⟩ (by omega)
  refine c_exit (x_seqE (x_seqE (x_blkE (x_seq (q0 (l_p 4 tbOk rfl (q1 (c_ret (x_ret1 rfl rfl ?_)))))))))
  first
  | exact ⟨by rw [word_all (by omega) hall]; congr 1; rw [Bool.eq_iff_iff]; simp only [ne_eq, decide_eq_true_eq]; omega, rfl⟩
  | exact ⟨by rw [word_no (i := i) (by omega) (by rw [word_kind hd]; simp_all)], rfl⟩

/-- The words of the language. -/
theorem rown_spec (M : Nat → Prop) (w : World) (hlow : Low M w) :
    Calls Try.prog 62 #[] w (Ret fun r w' => (∃ a b, r = .tuple #[a, b] ∧ Sl M w' a ownW) ∧ Ext w w') := by
  have hE : Below w.heap.size w w := Below.refl _ _
  have hB : w.heap.size ≤ w.heap.size := Nat.le_refl _
  refine c_enter (n := 4) Try.func62 rfl rfl rfl ?_
  refine q0 (l_p 2 tbOk rfl (q1 (q0 ?_)))
  refine l_cons (o_bs tbOk rfl rfl rfl rfl rfl rfl rfl (by decide) rfl rfl rfl ?_)
  intro bw1 w1 qbw1 ew1 hbw1
  have nbw1 := nM_of hlow qbw1
  replace hE := hE.trans (Below.mono ew1 hB)
  replace hlow := hlow.ext ew1
  replace hB := Nat.le_trans hB ew1.size
  have hl : Sl M w1 (.slice (some ⟨bw1, 0, none⟩) 15 15) ownW := lit_sl (us := ownW.map fun s => .string s) (l := ownW) hbw1 nbw1 (by simp only [ownW, List.map_cons, List.map_nil]; exact ⟨⟨rfl, by decide⟩, ⟨⟨rfl, by decide⟩, ⟨⟨rfl, by decide⟩, ⟨⟨rfl, by decide⟩, ⟨⟨rfl, by decide⟩, ⟨⟨rfl, by decide⟩, ⟨⟨rfl, by decide⟩, ⟨⟨rfl, by decide⟩, ⟨⟨rfl, by decide⟩, ⟨⟨rfl, by decide⟩, ⟨⟨rfl, by decide⟩, ⟨⟨rfl, by decide⟩, ⟨⟨rfl, by decide⟩, ⟨⟨rfl, by decide⟩, ⟨⟨rfl, by decide⟩, trivial⟩⟩⟩⟩⟩⟩⟩⟩⟩⟩⟩⟩⟩⟩⟩) (by simp [ownW])
  refine l_cons (o_bs tbOk rfl rfl rfl rfl rfl rfl rfl (by decide) rfl rfl rfl ?_)
  intro bw2 w2 qbw2 ew2 hbw2
  have nbw2 := nM_of hlow qbw2
  replace hE := hE.trans (Below.mono ew2 hB)
  replace hl := hl.ext ew2
  replace hlow := hlow.ext ew2
  replace hB := Nat.le_trans hB ew2.size
  refine l_p 2 tbOk rfl (q1 (c_ret (x_ret2 rfl rfl rfl ?_)))
  exact ⟨⟨_, _, rfl, hl⟩, hE⟩

/-- IsWord: a name? -/
theorem risWord_spec (M : Nat → Prop) (w : World) (s : ByteArray) (hs : s.size < 140737488355328) (hlow : Low M w) :
    Calls Try.prog 23 #[.string s] w (Ret fun r w' => r = .bool (isWordB s) ∧ Ext w w') := by
  have hE : Below w.heap.size w w := Below.refl _ _
  have hB : w.heap.size ≤ w.heap.size := Nat.le_refl _
  refine c_enter (n := 22) Try.func23 rfl rfl rfl ?_
  refine q0 (l_p 1 tbOk rfl (q1 (q0 ?_)))
  refine l_cons (o_call fo62 rfl rfl rfl (rown_spec M _ hlow) ?_)
  rintro _ w1 ⟨⟨va, vb, rfl, hl⟩, ew1⟩
  replace hE := hE.trans (Below.mono ew1 hB)
  replace hlow := hlow.ext ew1
  replace hB := Nat.le_trans hB ew1.size
  refine l_p 5 tbOk rfl (q1 (q0 (l_p 1 tbOk rfl ?_)))
  refine l_cons (o_call fo63 rfl rfl rfl (rwordly_spec _ s hs) ?_)
  rintro _ _ ⟨rfl, rfl⟩
  refine l_p 1 tbOk rfl ?_
  refine l_split 11 _ rfl (fun c1 => ?_) (fun c1 => ?_)
  · refine l_p 2 tbOk rfl ?_
    refine l_cons (o_call fo64 rfl rfl rfl (show Calls _ _ _ _ (Ret fun r w' => r = .bool (ownB s) ∧ w1 = w') from in2_spec M _ _ ownW s hl) ?_)
    rintro _ _ ⟨rfl, rfl⟩
    refine l_p 3 tbOk rfl ?_
    refine l_splitB 17 _ rfl (fun c2 => ?_) (fun c2 => ?_)
    · refine l_p 5 tbOk rfl (q1 (c_ret (x_ret1 rfl rfl ?_)))
      exact ⟨by unfold isWordB; by_cases h32 : s.size ≤ 32 <;> simp_all <;> omega, hE⟩
    refine l_p 5 tbOk rfl (q1 (c_ret (x_ret1 rfl rfl ?_)))
    exact ⟨by unfold isWordB; by_cases h32 : s.size ≤ 32 <;> simp_all <;> omega, hE⟩
  refine l_p 11 tbOk rfl (q1 (c_ret (x_ret1 rfl rfl ?_)))
  exact ⟨by unfold isWordB; by_cases h32 : s.size ≤ 32 <;> simp_all <;> omega, hE⟩

end Go.Proofs.Ytohfnpmehgpphaa
