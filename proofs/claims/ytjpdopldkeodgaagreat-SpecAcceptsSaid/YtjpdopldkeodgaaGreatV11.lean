import Derived.Test.YtjpdopldkeodgaaGreatV07
import Derived.Test.YtjpdopldkeodgaaGreatV05
import Derived.Test.YtjpdopldkeodgaaGreatV06
import Derived.KernelRfl
import Derived.Test.YtjpdopldkeodgaaGreatChecked
import Derived.Test.YtjpdopldkeodgaaGreatV10
set_option linter.all false
open Go.Proofs
namespace Go.VS
def phiN (n : Nat) : Nat := if 10000 ≤ n then n - 10000 else n
def phi : Phi := ⟨phiN, fun ps A B x y nt => lkB Tryz.prog phiN ps A B x y nt = true⟩
theorem lkok : LkOk Tryz.prog phi := fun _ _ _ _ _ _ => Iff.rfl
noncomputable def ck (f : Nat) (F : F) : Bool :=
  match Tryz.prog.funcs[phiN f]? with
  | some fn => !(fn.name == "runtime.NumGoroutine") && (match fn.body with | some c => chkC Tryz.prog phiN fn.ntmps c F.code && chkR Tryz.prog fn.results.toList F.res | none => false)
  | none => false
theorem ok_nurserylaw26_SpecEffect : ck 3 F_nurserylaw26_SpecEffect = true := by kernel_rfl
theorem ok_nurserylaw26_SpecAccepts : ck 4 F_nurserylaw26_SpecAccepts = true := by kernel_rfl
theorem ok_nurserylaw26_SpecMany : ck 5 F_nurserylaw26_SpecMany = true := by kernel_rfl
theorem ok_nurserylaw26_SpecAbstract : ck 6 F_nurserylaw26_SpecAbstract = true := by kernel_rfl
theorem ok_q16_Great : ck 13 F_q16_Great = true := by kernel_rfl
theorem ok_nurserylaw26_awake : ck 14 F_nurserylaw26_awake = true := by kernel_rfl
theorem ok_spec_Effect : ck 15 F_spec_Effect = true := by kernel_rfl
theorem ok_q26_Effect : ck 16 F_q26_Effect = true := by kernel_rfl
theorem ok_q16_Same : ck 17 F_q16_Same = true := by kernel_rfl
theorem ok_spec_Enabled : ck 18 F_spec_Enabled = true := by kernel_rfl
theorem ok_q26_Enabled : ck 19 F_q26_Enabled = true := by kernel_rfl
theorem ok_spec_Accepts : ck 20 F_spec_Accepts = true := by kernel_rfl
theorem ok_q26_Accepts : ck 21 F_q26_Accepts = true := by kernel_rfl
theorem ok_q26_IsAbstract : ck 22 F_q26_IsAbstract = true := by kernel_rfl
theorem ok_spec_Initial : ck 23 F_spec_Initial = true := by kernel_rfl
theorem ok_q26_Initial : ck 24 F_q26_Initial = true := by kernel_rfl
theorem ok_nurserylaw26_object : ck 35 F_nurserylaw26_object = true := by kernel_rfl
theorem ok_spec_EffectC1 : ck 36 F_spec_EffectC1 = true := by kernel_rfl
theorem ok_spec_of : ck 37 F_spec_of = true := by kernel_rfl
theorem ok_spec_operations : ck 38 F_spec_operations = true := by kernel_rfl
theorem ok_q26_belongs : ck 39 F_q26_belongs = true := by kernel_rfl
theorem ok_q26_fits : ck 40 F_q26_fits = true := by kernel_rfl
theorem ok_q26_effect : ck 41 F_q26_effect = true := by kernel_rfl
theorem ok_q04_SameInts : ck 42 F_q04_SameInts = true := by kernel_rfl
theorem ok_q16_SameWaiters : ck 43 F_q16_SameWaiters = true := by kernel_rfl
theorem ok_q16_sameCursors : ck 44 F_q16_sameCursors = true := by kernel_rfl
theorem ok_spec_result : ck 45 F_spec_result = true := by kernel_rfl
theorem ok_q26_AtRest : ck 46 F_q26_AtRest = true := by kernel_rfl
theorem ok_q26_Room : ck 47 F_q26_Room = true := by kernel_rfl
theorem ok_q26_Check : ck 48 F_q26_Check = true := by kernel_rfl
theorem ok_q16_New : ck 49 F_q16_New = true := by kernel_rfl
theorem ok_q17_New : ck 50 F_q17_New = true := by kernel_rfl
theorem ok_q19_New : ck 51 F_q19_New = true := by kernel_rfl
theorem ok_q20_New : ck 52 F_q20_New = true := by kernel_rfl
theorem ok_q21_New : ck 53 F_q21_New = true := by kernel_rfl
theorem ok_q23_New : ck 54 F_q23_New = true := by kernel_rfl
theorem ok_q24_New : ck 55 F_q24_New = true := by kernel_rfl
theorem ok_q25_New : ck 56 F_q25_New = true := by kernel_rfl
theorem ok_slices_ContainsFunc_api_Waiter_api_Waiter : ck 57 F_slices_ContainsFunc_api_Waiter_api_Waiter = true := by kernel_rfl
theorem ok_mutex_New : ck 62 F_mutex_New = true := by kernel_rfl
theorem ok_mutex_Check : ck 63 F_mutex_Check = true := by kernel_rfl
theorem ok_rwlock_New : ck 67 F_rwlock_New = true := by kernel_rfl
theorem ok_rwlock_Check : ck 68 F_rwlock_Check = true := by kernel_rfl
theorem ok_semaphore_New : ck 72 F_semaphore_New = true := by kernel_rfl
theorem ok_semaphore_Check : ck 73 F_semaphore_Check = true := by kernel_rfl
theorem ok_barrier_New : ck 77 F_barrier_New = true := by kernel_rfl
theorem ok_barrier_Check : ck 78 F_barrier_Check = true := by kernel_rfl
theorem ok_channel_New : ck 82 F_channel_New = true := by kernel_rfl
theorem ok_channel_Check : ck 83 F_channel_Check = true := by kernel_rfl
theorem ok_topic_New : ck 87 F_topic_New = true := by kernel_rfl
theorem ok_topic_Check : ck 88 F_topic_Check = true := by kernel_rfl
theorem ok_limiter_New : ck 92 F_limiter_New = true := by kernel_rfl
theorem ok_limiter_Check : ck 93 F_limiter_Check = true := by kernel_rfl
theorem ok_future_New : ck 97 F_future_New = true := by kernel_rfl
theorem ok_future_Check : ck 98 F_future_Check = true := by kernel_rfl
theorem ok_slices_IndexFunc_api_Cursor_api_Cursor : ck 102 F_slices_IndexFunc_api_Cursor_api_Cursor = true := by kernel_rfl
theorem ok_q26_lock : ck 105 F_q26_lock = true := by kernel_rfl
theorem ok_q26_readWrite : ck 106 F_q26_readWrite = true := by kernel_rfl
theorem ok_q26_permits : ck 107 F_q26_permits = true := by kernel_rfl
theorem ok_q26_arrive : ck 108 F_q26_arrive = true := by kernel_rfl
theorem ok_q26_pass : ck 109 F_q26_pass = true := by kernel_rfl
theorem ok_q26_tell : ck 110 F_q26_tell = true := by kernel_rfl
theorem ok_q26_drip : ck 111 F_q26_drip = true := by kernel_rfl
theorem ok_q26_once : ck 112 F_q26_once = true := by kernel_rfl
theorem ok_q16_Check : ck 113 F_q16_Check = true := by kernel_rfl
theorem ok_q17_Check : ck 114 F_q17_Check = true := by kernel_rfl
theorem ok_q19_Check : ck 115 F_q19_Check = true := by kernel_rfl
theorem ok_q20_Check : ck 116 F_q20_Check = true := by kernel_rfl
theorem ok_q21_Check : ck 117 F_q21_Check = true := by kernel_rfl
theorem ok_q23_Check : ck 118 F_q23_Check = true := by kernel_rfl
theorem ok_q24_Check : ck 119 F_q24_Check = true := by kernel_rfl
theorem ok_q25_Check : ck 120 F_q25_Check = true := by kernel_rfl
theorem ok_q19_within : ck 121 F_q19_within = true := by kernel_rfl
theorem ok_q23_within : ck 122 F_q23_within = true := by kernel_rfl
theorem ok_slices_IndexFunc_api_Waiter_api_Waiter : ck 123 F_slices_IndexFunc_api_Waiter_api_Waiter = true := by kernel_rfl
theorem ok_mutex_valid : ck 125 F_mutex_valid = true := by kernel_rfl
theorem ok_mutex_isTask : ck 127 F_mutex_isTask = true := by kernel_rfl
theorem ok_rwlock_valid : ck 130 F_rwlock_valid = true := by kernel_rfl
theorem ok_rwlock_isTask : ck 131 F_rwlock_isTask = true := by kernel_rfl
theorem ok_waitlist_Find : ck 132 F_waitlist_Find = true := by kernel_rfl
theorem ok_waitlist_Check : ck 142 F_waitlist_Check = true := by kernel_rfl
theorem ok_channel_valid : ck 156 F_channel_valid = true := by kernel_rfl
theorem ok_channel_number : ck 160 F_channel_number = true := by kernel_rfl
theorem ok_topic_cursors : ck 162 F_topic_cursors = true := by kernel_rfl
theorem ok_topic_queue : ck 163 F_topic_queue = true := by kernel_rfl
theorem ok_topic_find : ck 169 F_topic_find = true := by kernel_rfl
theorem ok_slices_Delete_api_Cursor_api_Cursor : ck 170 F_slices_Delete_api_Cursor_api_Cursor = true := by kernel_rfl
theorem ok_topic_full : ck 174 F_topic_full = true := by kernel_rfl
theorem ok_future_cell_valid : ck 183 F_future_cell_valid = true := by kernel_rfl
theorem ok_future_number : ck 184 F_future_number = true := by kernel_rfl
theorem ok_q17_Holds : ck 189 F_q17_Holds = true := by kernel_rfl
theorem ok_q26_without : ck 190 F_q26_without = true := by kernel_rfl
theorem ok_q26_with : ck 191 F_q26_with = true := by kernel_rfl
theorem ok_q26_subscriber : ck 192 F_q26_subscriber = true := by kernel_rfl
theorem ok_q16_Task : ck 193 F_q16_Task = true := by kernel_rfl
theorem ok_q16_queue : ck 194 F_q16_queue = true := by kernel_rfl
theorem ok_q17_valid : ck 195 F_q17_valid = true := by kernel_rfl
theorem ok_q17_vain : ck 196 F_q17_vain = true := by kernel_rfl
theorem ok_q07_Check : ck 197 F_q07_Check = true := by kernel_rfl
theorem ok_q07_Find : ck 198 F_q07_Find = true := by kernel_rfl
theorem ok_q21_inRange : ck 200 F_q21_inRange = true := by kernel_rfl
theorem ok_q21_goodQueue : ck 201 F_q21_goodQueue = true := by kernel_rfl
theorem ok_q21_waitsInVain : ck 202 F_q21_waitsInVain = true := by kernel_rfl
theorem ok_q23_checkCursors : ck 203 F_q23_checkCursors = true := by kernel_rfl
theorem ok_q23_checkQueue : ck 204 F_q23_checkQueue = true := by kernel_rfl
theorem ok_q25_inRange : ck 205 F_q25_inRange = true := by kernel_rfl
theorem ok_rwlock_queued : ck 213 F_rwlock_queued = true := by kernel_rfl
theorem ok_slices_Clone_int_int : ck 214 F_slices_Clone_int_int = true := by kernel_rfl
theorem ok_slices_IndexFunc_int_int : ck 217 F_slices_IndexFunc_int_int = true := by kernel_rfl
theorem ok_waitlist_valid : ck 218 F_waitlist_valid = true := by kernel_rfl
theorem ok_slices_ContainsFunc_int_int : ck 225 F_slices_ContainsFunc_int_int = true := by kernel_rfl
theorem ok_channel_validC1 : ck 226 F_channel_validC1 = true := by kernel_rfl
theorem ok_channel_vain : ck 228 F_channel_vain = true := by kernel_rfl
theorem ok_topic_number : ck 235 F_topic_number = true := by kernel_rfl
theorem ok_slices_Clone_api_Cursor_api_Cursor : ck 236 F_slices_Clone_api_Cursor_api_Cursor = true := by kernel_rfl
theorem ok_topic_findC1 : ck 238 F_topic_findC1 = true := by kernel_rfl
theorem ok_slices_ContainsFunc_api_Cursor_api_Cursor : ck 241 F_slices_ContainsFunc_api_Cursor_api_Cursor = true := by kernel_rfl
theorem ok_topic_fullC1 : ck 242 F_topic_fullC1 = true := by kernel_rfl
theorem ok_topic_waiting : ck 243 F_topic_waiting = true := by kernel_rfl
theorem ok_future_cell_plain : ck 248 F_future_cell_plain = true := by kernel_rfl
theorem ok_future_cell_queued : ck 249 F_future_cell_queued = true := by kernel_rfl
theorem ok_q17_reads : ck 250 F_q17_reads = true := by kernel_rfl
theorem ok_q17_IsTask : ck 251 F_q17_IsTask = true := by kernel_rfl
theorem ok_q07_Valid : ck 252 F_q07_Valid = true := by kernel_rfl
theorem ok_q23_cursor : ck 254 F_q23_cursor = true := by kernel_rfl
theorem ok_q23_publisher : ck 255 F_q23_publisher = true := by kernel_rfl
theorem ok_q23_Full : ck 256 F_q23_Full = true := by kernel_rfl
theorem ok_slices_BinarySearch_int_int : ck 262 F_slices_BinarySearch_int_int = true := by kernel_rfl
theorem ok_topic_waitingC1 : ck 278 F_topic_waitingC1 = true := by kernel_rfl
theorem ok_q07_within : ck 279 F_q07_within = true := by kernel_rfl
theorem ok_q23_waits : ck 280 F_q23_waits = true := by kernel_rfl
theorem ok_cmp_isNaN_int : ck 281 F_cmp_isNaN_int = true := by kernel_rfl
theorem ok_cmp_Less_int : ck 284 F_cmp_Less_int = true := by kernel_rfl
theorem ok_slices_isNaN_int : ck 285 F_slices_isNaN_int = true := by kernel_rfl
theorem ok_spec_layer_abstract : ck 312 F_spec_layer_abstract = true := by kernel_rfl
theorem ok_spec_layer_check : ck 313 F_spec_layer_check = true := by kernel_rfl
theorem ok_spec_layer_start : ck 314 F_spec_layer_start = true := by kernel_rfl
theorem ok_spec_mutexes_effect : ck 315 F_spec_mutexes_effect = true := by kernel_rfl
theorem ok_spec_locks_effect : ck 319 F_spec_locks_effect = true := by kernel_rfl
theorem ok_slices_Delete_int_int : ck 321 F_slices_Delete_int_int = true := by kernel_rfl
theorem ok_spec_semaphores_effect : ck 322 F_spec_semaphores_effect = true := by kernel_rfl
theorem ok_spec_barriers_abstract : ck 324 F_spec_barriers_abstract = true := by kernel_rfl
theorem ok_spec_barriers_effect : ck 325 F_spec_barriers_effect = true := by kernel_rfl
theorem ok_spec_channels_abstract : ck 327 F_spec_channels_abstract = true := by kernel_rfl
theorem ok_spec_channels_effect : ck 328 F_spec_channels_effect = true := by kernel_rfl
theorem ok_spec_room : ck 330 F_spec_room = true := by kernel_rfl
theorem ok_spec_topics_abstract : ck 332 F_spec_topics_abstract = true := by kernel_rfl
theorem ok_spec_topics_effect : ck 333 F_spec_topics_effect = true := by kernel_rfl
theorem ok_slices_BinarySearchFunc_api_Cursor_api_Cursor_int : ck 335 F_slices_BinarySearchFunc_api_Cursor_api_Cursor_int = true := by kernel_rfl
theorem ok_spec_topics_effectC1 : ck 336 F_spec_topics_effectC1 = true := by kernel_rfl
theorem ok_spec_limiters_effect : ck 339 F_spec_limiters_effect = true := by kernel_rfl
theorem ok_spec_futures_effect : ck 341 F_spec_futures_effect = true := by kernel_rfl
theorem okR_slices_Insert_int_int : ck 263 R_slices_Insert_int_int = true := by kernel_rfl
theorem okR_slices_Insert_api_Cursor_api_Cursor : ck 237 R_slices_Insert_api_Cursor_api_Cursor = true := by kernel_rfl
theorem code_of_ck {f : Nat} {F : F} (h : ck f F = true) : FnCode Tryz.prog phi f F := by
  unfold ck at h
  split at h
  · rename_i fn hf
    split at h
    · rename_i c hc
      simp only [Bool.and_eq_true, Bool.not_eq_true'] at h
      exact ⟨fn, c, hf, h.1, hc, h.2.1, h.2.2⟩
    · simp at h
  · cases h
theorem mixed : Tryz.prog.follows .mixedOrders = true := by kernel_rfl
theorem laid : laidOutB Tryz.prog = true := by kernel_rfl
set_option maxHeartbeats 4000000 in
theorem hF2 : ∀ f F, P2 f = some F → FnOk Tryz.prog phi f F := by
  intro f F h
  unfold P2 at h
  split at h
  · cases h; exact .inl ⟨rfl, code_of_ck ok_future_cell_queued⟩
  · cases h; exact .inl ⟨rfl, code_of_ck ok_q17_reads⟩
  · cases h; exact .inl ⟨rfl, code_of_ck ok_q17_IsTask⟩
  · cases h; exact .inl ⟨rfl, code_of_ck ok_q07_Valid⟩
  · cases h; exact .inl ⟨rfl, code_of_ck ok_q23_cursor⟩
  · cases h; exact .inl ⟨rfl, code_of_ck ok_q23_publisher⟩
  · cases h; exact .inl ⟨rfl, code_of_ck ok_q23_Full⟩
  · cases h; exact .inl ⟨rfl, code_of_ck ok_slices_BinarySearch_int_int⟩
  · cases h; exact .inl ⟨rfl, code_of_ck ok_topic_waitingC1⟩
  · cases h; exact .inl ⟨rfl, code_of_ck ok_q07_within⟩
  · cases h; exact .inl ⟨rfl, code_of_ck ok_q23_waits⟩
  · cases h; exact .inl ⟨rfl, code_of_ck ok_cmp_isNaN_int⟩
  · cases h; exact .inl ⟨rfl, code_of_ck ok_cmp_Less_int⟩
  · cases h; exact .inl ⟨rfl, code_of_ck ok_slices_isNaN_int⟩
  · cases h; exact .inl ⟨rfl, code_of_ck ok_spec_layer_abstract⟩
  · cases h; exact .inl ⟨rfl, code_of_ck ok_spec_layer_check⟩
  · cases h; exact .inl ⟨rfl, code_of_ck ok_spec_layer_start⟩
  · cases h; exact .inl ⟨rfl, code_of_ck ok_spec_mutexes_effect⟩
  · cases h; exact .inl ⟨rfl, code_of_ck ok_spec_locks_effect⟩
  · cases h; exact .inl ⟨rfl, code_of_ck ok_slices_Delete_int_int⟩
  · cases h; exact .inl ⟨rfl, code_of_ck ok_spec_semaphores_effect⟩
  · cases h; exact .inl ⟨rfl, code_of_ck ok_spec_barriers_abstract⟩
  · cases h; exact .inl ⟨rfl, code_of_ck ok_spec_barriers_effect⟩
  · cases h; exact .inl ⟨rfl, code_of_ck ok_spec_channels_abstract⟩
  · cases h; exact .inl ⟨rfl, code_of_ck ok_spec_channels_effect⟩
  · cases h; exact .inl ⟨rfl, code_of_ck ok_spec_room⟩
  · cases h; exact .inl ⟨rfl, code_of_ck ok_spec_topics_abstract⟩
  · cases h; exact .inl ⟨rfl, code_of_ck ok_spec_topics_effect⟩
  · cases h; exact .inl ⟨rfl, code_of_ck ok_slices_BinarySearchFunc_api_Cursor_api_Cursor_int⟩
  · cases h; exact .inl ⟨rfl, code_of_ck ok_spec_topics_effectC1⟩
  · cases h; exact .inl ⟨rfl, code_of_ck ok_spec_limiters_effect⟩
  · cases h; exact .inl ⟨rfl, code_of_ck ok_spec_futures_effect⟩
  · cases h; exact .inr ⟨_, rfl, ins_ok mixed lkok (code_of_ck okR_slices_Insert_int_int) rfl rfl rfl (by decide)⟩
  · cases h; exact .inr ⟨_, rfl, ins_ok mixed lkok (code_of_ck okR_slices_Insert_api_Cursor_api_Cursor) rfl rfl rfl (by decide)⟩
  · cases h
set_option maxHeartbeats 4000000 in
theorem hF1 : ∀ f F, P1 f = some F → FnOk Tryz.prog phi f F := by
  intro f F h
  unfold P1 at h
  split at h
  · cases h; exact .inl ⟨rfl, code_of_ck ok_q26_pass⟩
  · cases h; exact .inl ⟨rfl, code_of_ck ok_q26_tell⟩
  · cases h; exact .inl ⟨rfl, code_of_ck ok_q26_drip⟩
  · cases h; exact .inl ⟨rfl, code_of_ck ok_q26_once⟩
  · cases h; exact .inl ⟨rfl, code_of_ck ok_q16_Check⟩
  · cases h; exact .inl ⟨rfl, code_of_ck ok_q17_Check⟩
  · cases h; exact .inl ⟨rfl, code_of_ck ok_q19_Check⟩
  · cases h; exact .inl ⟨rfl, code_of_ck ok_q20_Check⟩
  · cases h; exact .inl ⟨rfl, code_of_ck ok_q21_Check⟩
  · cases h; exact .inl ⟨rfl, code_of_ck ok_q23_Check⟩
  · cases h; exact .inl ⟨rfl, code_of_ck ok_q24_Check⟩
  · cases h; exact .inl ⟨rfl, code_of_ck ok_q25_Check⟩
  · cases h; exact .inl ⟨rfl, code_of_ck ok_q19_within⟩
  · cases h; exact .inl ⟨rfl, code_of_ck ok_q23_within⟩
  · cases h; exact .inl ⟨rfl, code_of_ck ok_slices_IndexFunc_api_Waiter_api_Waiter⟩
  · cases h; exact .inl ⟨rfl, code_of_ck ok_mutex_valid⟩
  · cases h; exact .inl ⟨rfl, code_of_ck ok_mutex_isTask⟩
  · cases h; exact .inl ⟨rfl, code_of_ck ok_rwlock_valid⟩
  · cases h; exact .inl ⟨rfl, code_of_ck ok_rwlock_isTask⟩
  · cases h; exact .inl ⟨rfl, code_of_ck ok_waitlist_Find⟩
  · cases h; exact .inl ⟨rfl, code_of_ck ok_waitlist_Check⟩
  · cases h; exact .inl ⟨rfl, code_of_ck ok_channel_valid⟩
  · cases h; exact .inl ⟨rfl, code_of_ck ok_channel_number⟩
  · cases h; exact .inl ⟨rfl, code_of_ck ok_topic_cursors⟩
  · cases h; exact .inl ⟨rfl, code_of_ck ok_topic_queue⟩
  · cases h; exact .inl ⟨rfl, code_of_ck ok_topic_find⟩
  · cases h; exact .inl ⟨rfl, code_of_ck ok_slices_Delete_api_Cursor_api_Cursor⟩
  · cases h; exact .inl ⟨rfl, code_of_ck ok_topic_full⟩
  · cases h; exact .inl ⟨rfl, code_of_ck ok_future_cell_valid⟩
  · cases h; exact .inl ⟨rfl, code_of_ck ok_future_number⟩
  · cases h; exact .inl ⟨rfl, code_of_ck ok_q17_Holds⟩
  · cases h; exact .inl ⟨rfl, code_of_ck ok_q26_without⟩
  · cases h; exact .inl ⟨rfl, code_of_ck ok_q26_with⟩
  · cases h; exact .inl ⟨rfl, code_of_ck ok_q26_subscriber⟩
  · cases h; exact .inl ⟨rfl, code_of_ck ok_q16_Task⟩
  · cases h; exact .inl ⟨rfl, code_of_ck ok_q16_queue⟩
  · cases h; exact .inl ⟨rfl, code_of_ck ok_q17_valid⟩
  · cases h; exact .inl ⟨rfl, code_of_ck ok_q17_vain⟩
  · cases h; exact .inl ⟨rfl, code_of_ck ok_q07_Check⟩
  · cases h; exact .inl ⟨rfl, code_of_ck ok_q07_Find⟩
  · cases h; exact .inl ⟨rfl, code_of_ck ok_q21_inRange⟩
  · cases h; exact .inl ⟨rfl, code_of_ck ok_q21_goodQueue⟩
  · cases h; exact .inl ⟨rfl, code_of_ck ok_q21_waitsInVain⟩
  · cases h; exact .inl ⟨rfl, code_of_ck ok_q23_checkCursors⟩
  · cases h; exact .inl ⟨rfl, code_of_ck ok_q23_checkQueue⟩
  · cases h; exact .inl ⟨rfl, code_of_ck ok_q25_inRange⟩
  · cases h; exact .inl ⟨rfl, code_of_ck ok_rwlock_queued⟩
  · cases h; exact .inl ⟨rfl, code_of_ck ok_slices_Clone_int_int⟩
  · cases h; exact .inl ⟨rfl, code_of_ck ok_slices_IndexFunc_int_int⟩
  · cases h; exact .inl ⟨rfl, code_of_ck ok_waitlist_valid⟩
  · cases h; exact .inl ⟨rfl, code_of_ck ok_slices_ContainsFunc_int_int⟩
  · cases h; exact .inl ⟨rfl, code_of_ck ok_channel_validC1⟩
  · cases h; exact .inl ⟨rfl, code_of_ck ok_channel_vain⟩
  · cases h; exact .inl ⟨rfl, code_of_ck ok_topic_number⟩
  · cases h; exact .inl ⟨rfl, code_of_ck ok_slices_Clone_api_Cursor_api_Cursor⟩
  · cases h; exact .inl ⟨rfl, code_of_ck ok_topic_findC1⟩
  · cases h; exact .inl ⟨rfl, code_of_ck ok_slices_ContainsFunc_api_Cursor_api_Cursor⟩
  · cases h; exact .inl ⟨rfl, code_of_ck ok_topic_fullC1⟩
  · cases h; exact .inl ⟨rfl, code_of_ck ok_topic_waiting⟩
  · cases h; exact .inl ⟨rfl, code_of_ck ok_future_cell_plain⟩
  · exact hF2 _ _ h
set_option maxHeartbeats 4000000 in
theorem hF : ∀ f F, P f = some F → FnOk Tryz.prog phi f F := by
  intro f F h
  unfold P at h
  split at h
  · cases h; exact .inl ⟨rfl, code_of_ck ok_nurserylaw26_SpecEffect⟩
  · cases h; exact .inl ⟨rfl, code_of_ck ok_nurserylaw26_SpecAccepts⟩
  · cases h; exact .inl ⟨rfl, code_of_ck ok_nurserylaw26_SpecMany⟩
  · cases h; exact .inl ⟨rfl, code_of_ck ok_nurserylaw26_SpecAbstract⟩
  · cases h; exact .inl ⟨rfl, code_of_ck ok_q16_Great⟩
  · cases h; exact .inl ⟨rfl, code_of_ck ok_nurserylaw26_awake⟩
  · cases h; exact .inl ⟨rfl, code_of_ck ok_spec_Effect⟩
  · cases h; exact .inl ⟨rfl, code_of_ck ok_q26_Effect⟩
  · cases h; exact .inl ⟨rfl, code_of_ck ok_q16_Same⟩
  · cases h; exact .inl ⟨rfl, code_of_ck ok_spec_Enabled⟩
  · cases h; exact .inl ⟨rfl, code_of_ck ok_q26_Enabled⟩
  · cases h; exact .inl ⟨rfl, code_of_ck ok_spec_Accepts⟩
  · cases h; exact .inl ⟨rfl, code_of_ck ok_q26_Accepts⟩
  · cases h; exact .inl ⟨rfl, code_of_ck ok_q26_IsAbstract⟩
  · cases h; exact .inl ⟨rfl, code_of_ck ok_spec_Initial⟩
  · cases h; exact .inl ⟨rfl, code_of_ck ok_q26_Initial⟩
  · cases h; exact .inl ⟨rfl, code_of_ck ok_nurserylaw26_object⟩
  · cases h; exact .inl ⟨rfl, code_of_ck ok_spec_EffectC1⟩
  · cases h; exact .inl ⟨rfl, code_of_ck ok_spec_of⟩
  · cases h; exact .inl ⟨rfl, code_of_ck ok_spec_operations⟩
  · cases h; exact .inl ⟨rfl, code_of_ck ok_q26_belongs⟩
  · cases h; exact .inl ⟨rfl, code_of_ck ok_q26_fits⟩
  · cases h; exact .inl ⟨rfl, code_of_ck ok_q26_effect⟩
  · cases h; exact .inl ⟨rfl, code_of_ck ok_q04_SameInts⟩
  · cases h; exact .inl ⟨rfl, code_of_ck ok_q16_SameWaiters⟩
  · cases h; exact .inl ⟨rfl, code_of_ck ok_q16_sameCursors⟩
  · cases h; exact .inl ⟨rfl, code_of_ck ok_spec_result⟩
  · cases h; exact .inl ⟨rfl, code_of_ck ok_q26_AtRest⟩
  · cases h; exact .inl ⟨rfl, code_of_ck ok_q26_Room⟩
  · cases h; exact .inl ⟨rfl, code_of_ck ok_q26_Check⟩
  · cases h; exact .inl ⟨rfl, code_of_ck ok_q16_New⟩
  · cases h; exact .inl ⟨rfl, code_of_ck ok_q17_New⟩
  · cases h; exact .inl ⟨rfl, code_of_ck ok_q19_New⟩
  · cases h; exact .inl ⟨rfl, code_of_ck ok_q20_New⟩
  · cases h; exact .inl ⟨rfl, code_of_ck ok_q21_New⟩
  · cases h; exact .inl ⟨rfl, code_of_ck ok_q23_New⟩
  · cases h; exact .inl ⟨rfl, code_of_ck ok_q24_New⟩
  · cases h; exact .inl ⟨rfl, code_of_ck ok_q25_New⟩
  · cases h; exact .inl ⟨rfl, code_of_ck ok_slices_ContainsFunc_api_Waiter_api_Waiter⟩
  · cases h; exact .inl ⟨rfl, code_of_ck ok_mutex_New⟩
  · cases h; exact .inl ⟨rfl, code_of_ck ok_mutex_Check⟩
  · cases h; exact .inl ⟨rfl, code_of_ck ok_rwlock_New⟩
  · cases h; exact .inl ⟨rfl, code_of_ck ok_rwlock_Check⟩
  · cases h; exact .inl ⟨rfl, code_of_ck ok_semaphore_New⟩
  · cases h; exact .inl ⟨rfl, code_of_ck ok_semaphore_Check⟩
  · cases h; exact .inl ⟨rfl, code_of_ck ok_barrier_New⟩
  · cases h; exact .inl ⟨rfl, code_of_ck ok_barrier_Check⟩
  · cases h; exact .inl ⟨rfl, code_of_ck ok_channel_New⟩
  · cases h; exact .inl ⟨rfl, code_of_ck ok_channel_Check⟩
  · cases h; exact .inl ⟨rfl, code_of_ck ok_topic_New⟩
  · cases h; exact .inl ⟨rfl, code_of_ck ok_topic_Check⟩
  · cases h; exact .inl ⟨rfl, code_of_ck ok_limiter_New⟩
  · cases h; exact .inl ⟨rfl, code_of_ck ok_limiter_Check⟩
  · cases h; exact .inl ⟨rfl, code_of_ck ok_future_New⟩
  · cases h; exact .inl ⟨rfl, code_of_ck ok_future_Check⟩
  · cases h; exact .inl ⟨rfl, code_of_ck ok_slices_IndexFunc_api_Cursor_api_Cursor⟩
  · cases h; exact .inl ⟨rfl, code_of_ck ok_q26_lock⟩
  · cases h; exact .inl ⟨rfl, code_of_ck ok_q26_readWrite⟩
  · cases h; exact .inl ⟨rfl, code_of_ck ok_q26_permits⟩
  · cases h; exact .inl ⟨rfl, code_of_ck ok_q26_arrive⟩
  · exact hF1 _ _ h
end Go.VS
namespace Go.VS.Sp
abbrev tI : Ty := .i .i64
def tW : Ty := .st [tI, tI, tI, tI, tI]
def tCur : Ty := .st [tI, .sl 1 tI]
def tS : Ty := .st [tI, tI, tI, .sl 1 tI, .sl 5 tW, .sl 1 tI, .sl 2 tCur, .b, tI]
def tO : Ty := .st [.s, tI, tI, tI]
def tC : Ty := .st [tI, tI, tI, tI, tI]
theorem wt_i {cs : List D} (h : WT tI cs) : ∃ n, cs = [I' n] := by
  simp only [tI, WT] at h
  obtain ⟨n, rfl, _⟩ := h
  exact ⟨n, rfl⟩
theorem ints_of {rows : List (List D)} (h : ∀ r ∈ rows, WT tI r) : ∃ hs : List Int, rows = rows1 hs := by
  induction rows with
  | nil => exact ⟨[], rfl⟩
  | cons r rs ih =>
    obtain ⟨n, rfl⟩ := wt_i (h r (by simp))
    obtain ⟨hs, rfl⟩ := ih fun x hx => h x (by simp [hx])
    exact ⟨n :: hs, rfl⟩
theorem five_of {cs : List D} (h : WTs [tI, tI, tI, tI, tI] cs) : ∃ a b c d e, cs = [I' a, I' b, I' c, I' d, I' e] := by
  simp only [WTs] at h
  obtain ⟨_, _, rfl, h1, _, _, rfl, h2, _, _, rfl, h3, _, _, rfl, h4, _, _, rfl, h5, rfl⟩ := h
  obtain ⟨a, rfl⟩ := wt_i h1
  obtain ⟨b, rfl⟩ := wt_i h2
  obtain ⟨c, rfl⟩ := wt_i h3
  obtain ⟨d, rfl⟩ := wt_i h4
  obtain ⟨e, rfl⟩ := wt_i h5
  exact ⟨a, b, c, d, e, rfl⟩
theorem waiters_of {rows : List (List D)} (h : ∀ r ∈ rows, WT tW r) : ∃ q : List W, rows = q.map W.row := by
  induction rows with
  | nil => exact ⟨[], rfl⟩
  | cons r rs ih =>
    have h1 := h r (by simp)
    simp only [tW, WT] at h1
    obtain ⟨a, b, c, d, e, rfl⟩ := five_of h1
    obtain ⟨q, rfl⟩ := ih fun x hx => h x (by simp [hx])
    exact ⟨⟨a, b, c, d, e⟩ :: q, rfl⟩
theorem wt_sl {es : Nat} {t : Ty} {cs : List D} (h : WT (.sl es t) cs) : ∃ nl rows, cs = [.sl es nl rows] ∧ (nl = true → rows = []) ∧ ∀ r ∈ rows, WT t r := by
  simp only [WT] at h
  obtain ⟨nl, rows, rfl, h1, _, h2⟩ := h
  exact ⟨nl, rows, rfl, h1, h2⟩
theorem cursors_of {rows : List (List D)} (h : ∀ r ∈ rows, WT tCur r) : ∃ C : List K, rows = C.map K.row ∧ ∀ c ∈ C, c.nl = true → c.log = [] := by
  induction rows with
  | nil => exact ⟨[], rfl, by simp⟩
  | cons r rs ih =>
    have h1 := h r (by simp)
    simp only [tCur, WT, WTs] at h1
    obtain ⟨_, _, rfl, ⟨n, rfl, _⟩, _, _, rfl, ⟨nb, r, rfl, n1, _, k1⟩, rfl⟩ := h1
    obtain ⟨hs, rfl⟩ := ints_of (by simpa [tI, WT] using k1)
    obtain ⟨C, rfl, hC⟩ := ih fun x hx => h x (by simp [hx])
    refine ⟨⟨n, nb, hs⟩ :: C, rfl, ?_⟩
    intro c hc
    rcases List.mem_cons.1 hc with rfl | hc
    · intro e
      exact List.map_eq_nil_iff.1 (n1 e)
    · exact hC c hc
theorem state_of {s : D} (h : WV tS s) : ∃ x : S, s = .ag x.row ∧ x.wf := by
  simp only [tS, WV] at h
  obtain ⟨cs, rfl, h⟩ := h
  simp only [WTs] at h
  obtain ⟨_, _, rfl, h1, _, _, rfl, h2, _, _, rfl, h3, _, _, rfl, h4, _, _, rfl, h5, _, _, rfl, h6, _, _, rfl, h7, _, _, rfl, h8, _, _, rfl, h9, rfl⟩ := h
  obtain ⟨own, rfl⟩ := wt_i h1
  obtain ⟨cnt, rfl⟩ := wt_i h2
  obtain ⟨time, rfl⟩ := wt_i h3
  obtain ⟨hn, r4, rfl, n4, k4⟩ := wt_sl h4
  obtain ⟨hs, rfl⟩ := ints_of k4
  obtain ⟨qn, r5, rfl, n5, k5⟩ := wt_sl h5
  obtain ⟨q, rfl⟩ := waiters_of k5
  obtain ⟨bn, r6, rfl, n6, k6⟩ := wt_sl h6
  obtain ⟨bs, rfl⟩ := ints_of k6
  obtain ⟨cn, r7, rfl, n7, k7⟩ := wt_sl h7
  obtain ⟨C, rfl, hC⟩ := cursors_of k7
  simp only [WT] at h8
  obtain ⟨cl, rfl⟩ := h8
  obtain ⟨val, rfl⟩ := wt_i h9
  exact ⟨⟨own, cnt, time, hn, hs, qn, q, bn, bs, cn, C, cl, val⟩, rfl, ⟨fun h => List.map_eq_nil_iff.1 (n4 h), fun h => List.map_eq_nil_iff.1 (n6 h), fun h => List.map_eq_nil_iff.1 (n7 h), hC⟩⟩
theorem object_of {s : D} (h : WV tO s) : ∃ nm k sz ot, s = .ag [nm, I' k, I' sz, I' ot] := by
  simp only [tO, WV, WTs] at h
  obtain ⟨cs, rfl, _, _, rfl, h1, _, _, rfl, h2, _, _, rfl, h3, _, _, rfl, h4, rfl⟩ := h
  simp only [WT] at h1
  obtain ⟨nm, rfl, _⟩ := h1
  obtain ⟨a, rfl⟩ := wt_i h2
  obtain ⟨b, rfl⟩ := wt_i h3
  obtain ⟨c, rfl⟩ := wt_i h4
  exact ⟨_, a, b, c, rfl⟩
theorem call_of {s : D} (h : WV tC s) : ∃ c : Cl, s = .ag c.row := by
  simp only [tC, WV] at h
  obtain ⟨cs, rfl, h⟩ := h
  obtain ⟨a, b, c, d, e, rfl⟩ := five_of h
  exact ⟨⟨a, b, c, d, e⟩, rfl⟩
theorem int_of {s : D} (h : WV tI s) : ∃ n, s = I' n := by
  simp only [tI, WV] at h
  obtain ⟨n, hn⟩ := wt_i h
  exact ⟨n, by simpa using hn⟩
def tWk : Ty := .st [tI, tI, tI, .b, tI]
abbrev tLC : Ty := .sl 5 tC
abbrev tLW : Ty := .sl 5 tWk
theorem calls_of {rows : List (List D)} (h : ∀ r ∈ rows, WT tC r) : ∃ q : List Cl, rows = q.map Cl.row := by
  induction rows with
  | nil => exact ⟨[], rfl⟩
  | cons r rs ih =>
    have h1 := h r (by simp)
    simp only [tC, WT] at h1
    obtain ⟨a, b, c, d, e, rfl⟩ := five_of h1
    obtain ⟨q, rfl⟩ := ih fun x hx => h x (by simp [hx])
    exact ⟨⟨a, b, c, d, e⟩ :: q, rfl⟩
theorem wakes_of {rows : List (List D)} (h : ∀ r ∈ rows, WT tWk r) : ∃ q : List Wk, rows = q.map Wk.row := by
  induction rows with
  | nil => exact ⟨[], rfl⟩
  | cons r rs ih =>
    have h1 := h r (by simp)
    simp only [tWk, WT, WTs] at h1
    obtain ⟨_, _, rfl, ⟨a, rfl, _⟩, _, _, rfl, ⟨b, rfl, _⟩, _, _, rfl, ⟨c, rfl, _⟩, _, _, rfl, ⟨d, rfl⟩, _, _, rfl, ⟨e, rfl, _⟩, rfl⟩ := h1
    obtain ⟨q, rfl⟩ := ih fun x hx => h x (by simp [hx])
    exact ⟨⟨a, b, c, d, e⟩ :: q, rfl⟩
theorem wv_sl {es : Nat} {t : Ty} {d : D} (h : WV (.sl es t) d) : ∃ nl rows, d = .sl es nl rows ∧ ∀ r ∈ rows, WT t r := by
  simp only [WV, WT] at h
  obtain ⟨nl, rows, h1, _, _, h2⟩ := h
  exact ⟨nl, rows, by simpa using h1, h2⟩
theorem l_Effect (xs : List D) (h : WVs [tO, tS, tC] xs) : ev P (.call nurserylaw26_SpecEffect (xs.map V.d) []) = some (.val (.d (.b true)) []) := by
  simp only [WVs] at h
  obtain ⟨o, _, rfl, ho, s, _, rfl, hs, c, _, rfl, hc, rfl⟩ := h
  obtain ⟨nm, k, sz, ot, rfl⟩ := object_of ho
  obtain ⟨x, rfl, hx⟩ := state_of hs
  obtain ⟨c, rfl⟩ := call_of hc
  exact law_Effect nm k sz ot x c hx
theorem l_Abstract (xs : List D) (h : WVs [tO, tS, tC] xs) : ev P (.call nurserylaw26_SpecAbstract (xs.map V.d) []) = some (.val (.d (.b true)) []) := by
  simp only [WVs] at h
  obtain ⟨o, _, rfl, ho, s, _, rfl, hs, c, _, rfl, hc, rfl⟩ := h
  obtain ⟨nm, k, sz, ot, rfl⟩ := object_of ho
  obtain ⟨x, rfl, hx⟩ := state_of hs
  obtain ⟨c, rfl⟩ := call_of hc
  exact law_Abstract nm k sz ot x c hx
theorem l_Accepts (xs : List D) (h : WVs [tO, tLC, tLW] xs) : ev P (.call nurserylaw26_SpecAccepts (xs.map V.d) []) = some (.val (.d (.b true)) []) := by
  simp only [WVs] at h
  obtain ⟨o, _, rfl, ho, s, _, rfl, hs, c, _, rfl, hc, rfl⟩ := h
  obtain ⟨nm, k, sz, ot, rfl⟩ := object_of ho
  obtain ⟨ln, rows, rfl, h1⟩ := wv_sl hs
  obtain ⟨rn, rows2, rfl, h2⟩ := wv_sl hc
  obtain ⟨l, rfl⟩ := calls_of h1
  obtain ⟨r, rfl⟩ := wakes_of h2
  exact law_Accepts nm k sz ot ln rn l r
end Go.VS.Sp
