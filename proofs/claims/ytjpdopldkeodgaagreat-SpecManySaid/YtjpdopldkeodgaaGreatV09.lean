import Derived.Test.YtjpdopldkeodgaaGreatV06
import Derived.Test.YtjpdopldkeodgaaGreatV04
import Derived.Test.YtjpdopldkeodgaaGreatV05
import Derived.KernelRfl
import Derived.Test.YtjpdopldkeodgaaGreatChecked
import Derived.Test.YtjpdopldkeodgaaGreatV08
set_option linter.all false
open Go.Proofs
namespace Go.VS
def phiN (n : Nat) : Nat := if 10000 ≤ n then n - 10000 else n
def phi : Phi := ⟨phiN, fun ps A B x y nt => lkB Tryz.prog phiN ps A B x y nt = true⟩
theorem lkok : LkOk Tryz.prog phi := fun _ _ _ _ _ _ => Iff.rfl
noncomputable def ck (f : Nat) (F : F) : Bool :=
  match Tryz.prog.funcs[phiN f]? with
  | some fn => !(fn.name == "runtime.NumGoroutine") && (match fn.body with | some c => chkC Tryz.prog phiN fn.ntmps c F.code && chkR Tryz.prog fn.results.toList F.res | none => false)
  | none => false
theorem ok_nurserylaw26_SpecMany : ck 5 F_nurserylaw26_SpecMany = true := by kernel_rfl
theorem ok_nurserylaw26_awake : ck 14 F_nurserylaw26_awake = true := by kernel_rfl
theorem ok_spec_Effect : ck 15 F_spec_Effect = true := by kernel_rfl
theorem ok_spec_Enabled : ck 18 F_spec_Enabled = true := by kernel_rfl
theorem ok_spec_Accepts : ck 20 F_spec_Accepts = true := by kernel_rfl
theorem ok_spec_Initial : ck 23 F_spec_Initial = true := by kernel_rfl
theorem ok_nurserylaw26_object : ck 35 F_nurserylaw26_object = true := by kernel_rfl
theorem ok_spec_EffectC1 : ck 36 F_spec_EffectC1 = true := by kernel_rfl
theorem ok_spec_of : ck 37 F_spec_of = true := by kernel_rfl
theorem ok_spec_operations : ck 38 F_spec_operations = true := by kernel_rfl
theorem ok_spec_result : ck 45 F_spec_result = true := by kernel_rfl
theorem ok_slices_ContainsFunc_api_Waiter_api_Waiter : ck 57 F_slices_ContainsFunc_api_Waiter_api_Waiter = true := by kernel_rfl
theorem ok_mutex_New : ck 62 F_mutex_New = true := by kernel_rfl
theorem ok_mutex_Check : ck 63 F_mutex_Check = true := by kernel_rfl
theorem ok_rwlock_New : ck 67 F_rwlock_New = true := by kernel_rfl
theorem ok_rwlock_Check : ck 68 F_rwlock_Check = true := by kernel_rfl
theorem ok_semaphore_New : ck 72 F_semaphore_New = true := by kernel_rfl
theorem ok_semaphore_Check : ck 73 F_semaphore_Check = true := by kernel_rfl
theorem ok_barrier_New : ck 77 F_barrier_New = true := by kernel_rfl
theorem ok_barrier_Check : ck 78 F_barrier_Check = true := by kernel_rfl
theorem ok_channel_New : ck 82 F_channel_New = true := by kernel_rfl
theorem ok_channel_Check : ck 83 F_channel_Check = true := by kernel_rfl
theorem ok_topic_New : ck 87 F_topic_New = true := by kernel_rfl
theorem ok_topic_Check : ck 88 F_topic_Check = true := by kernel_rfl
theorem ok_limiter_New : ck 92 F_limiter_New = true := by kernel_rfl
theorem ok_limiter_Check : ck 93 F_limiter_Check = true := by kernel_rfl
theorem ok_future_New : ck 97 F_future_New = true := by kernel_rfl
theorem ok_future_Check : ck 98 F_future_Check = true := by kernel_rfl
theorem ok_slices_IndexFunc_api_Cursor_api_Cursor : ck 102 F_slices_IndexFunc_api_Cursor_api_Cursor = true := by kernel_rfl
theorem ok_slices_IndexFunc_api_Waiter_api_Waiter : ck 123 F_slices_IndexFunc_api_Waiter_api_Waiter = true := by kernel_rfl
theorem ok_mutex_valid : ck 125 F_mutex_valid = true := by kernel_rfl
theorem ok_mutex_isTask : ck 127 F_mutex_isTask = true := by kernel_rfl
theorem ok_rwlock_valid : ck 130 F_rwlock_valid = true := by kernel_rfl
theorem ok_rwlock_isTask : ck 131 F_rwlock_isTask = true := by kernel_rfl
theorem ok_waitlist_Find : ck 132 F_waitlist_Find = true := by kernel_rfl
theorem ok_rwlock_changed : ck 133 F_rwlock_changed = true := by kernel_rfl
theorem ok_rwlock_holds : ck 134 F_rwlock_holds = true := by kernel_rfl
theorem ok_rwlock_lock_free : ck 135 F_rwlock_lock_free = true := by kernel_rfl
theorem ok_rwlock_lock_writes : ck 136 F_rwlock_lock_writes = true := by kernel_rfl
theorem ok_rwlock_lock_serve : ck 140 F_rwlock_lock_serve = true := by kernel_rfl
theorem ok_waitlist_Check : ck 142 F_waitlist_Check = true := by kernel_rfl
theorem ok_semaphore_waits : ck 143 F_semaphore_waits = true := by kernel_rfl
theorem ok_waitlist_Tasks : ck 151 F_waitlist_Tasks = true := by kernel_rfl
theorem ok_slices_Clone_api_Waiter_api_Waiter : ck 153 F_slices_Clone_api_Waiter_api_Waiter = true := by kernel_rfl
theorem ok_channel_valid : ck 156 F_channel_valid = true := by kernel_rfl
theorem ok_channel_number : ck 160 F_channel_number = true := by kernel_rfl
theorem ok_topic_cursors : ck 162 F_topic_cursors = true := by kernel_rfl
theorem ok_topic_queue : ck 163 F_topic_queue = true := by kernel_rfl
theorem ok_topic_find : ck 169 F_topic_find = true := by kernel_rfl
theorem ok_slices_Delete_api_Cursor_api_Cursor : ck 170 F_slices_Delete_api_Cursor_api_Cursor = true := by kernel_rfl
theorem ok_topic_full : ck 174 F_topic_full = true := by kernel_rfl
theorem ok_future_cell_valid : ck 183 F_future_cell_valid = true := by kernel_rfl
theorem ok_future_number : ck 184 F_future_number = true := by kernel_rfl
theorem ok_mutex_validC1 : ck 206 F_mutex_validC1 = true := by kernel_rfl
theorem ok_rwlock_queued : ck 213 F_rwlock_queued = true := by kernel_rfl
theorem ok_slices_Clone_int_int : ck 214 F_slices_Clone_int_int = true := by kernel_rfl
theorem ok_slices_Contains_int_int : ck 215 F_slices_Contains_int_int = true := by kernel_rfl
theorem ok_rwlock_lock_grant : ck 216 F_rwlock_lock_grant = true := by kernel_rfl
theorem ok_slices_IndexFunc_int_int : ck 217 F_slices_IndexFunc_int_int = true := by kernel_rfl
theorem ok_waitlist_valid : ck 218 F_waitlist_valid = true := by kernel_rfl
theorem ok_slices_ContainsFunc_int_int : ck 225 F_slices_ContainsFunc_int_int = true := by kernel_rfl
theorem ok_channel_validC1 : ck 226 F_channel_validC1 = true := by kernel_rfl
theorem ok_channel_fine : ck 227 F_channel_fine = true := by kernel_rfl
theorem ok_channel_vain : ck 228 F_channel_vain = true := by kernel_rfl
theorem ok_topic_number : ck 235 F_topic_number = true := by kernel_rfl
theorem ok_slices_Clone_api_Cursor_api_Cursor : ck 236 F_slices_Clone_api_Cursor_api_Cursor = true := by kernel_rfl
theorem ok_topic_findC1 : ck 238 F_topic_findC1 = true := by kernel_rfl
theorem ok_slices_ContainsFunc_api_Cursor_api_Cursor : ck 241 F_slices_ContainsFunc_api_Cursor_api_Cursor = true := by kernel_rfl
theorem ok_topic_fullC1 : ck 242 F_topic_fullC1 = true := by kernel_rfl
theorem ok_topic_waiting : ck 243 F_topic_waiting = true := by kernel_rfl
theorem ok_future_cell_plain : ck 248 F_future_cell_plain = true := by kernel_rfl
theorem ok_future_cell_queued : ck 249 F_future_cell_queued = true := by kernel_rfl
theorem ok_slices_Index_int_int : ck 261 F_slices_Index_int_int = true := by kernel_rfl
theorem ok_slices_BinarySearch_int_int : ck 262 F_slices_BinarySearch_int_int = true := by kernel_rfl
theorem ok_channel_fineC1 : ck 265 F_channel_fineC1 = true := by kernel_rfl
theorem ok_channel_vainC1 : ck 266 F_channel_vainC1 = true := by kernel_rfl
theorem ok_channel_foreign : ck 267 F_channel_foreign = true := by kernel_rfl
theorem ok_slices_rotateRight_api_Cursor : ck 274 F_slices_rotateRight_api_Cursor = true := by kernel_rfl
theorem ok_topic_waitingC1 : ck 278 F_topic_waitingC1 = true := by kernel_rfl
theorem ok_cmp_isNaN_int : ck 281 F_cmp_isNaN_int = true := by kernel_rfl
theorem ok_cmp_Less_int : ck 284 F_cmp_Less_int = true := by kernel_rfl
theorem ok_slices_isNaN_int : ck 285 F_slices_isNaN_int = true := by kernel_rfl
theorem ok_slices_rotateRight_int : ck 287 F_slices_rotateRight_int = true := by kernel_rfl
theorem ok_channel_foreignC1 : ck 288 F_channel_foreignC1 = true := by kernel_rfl
theorem ok_slices_rotateLeft_api_Cursor : ck 291 F_slices_rotateLeft_api_Cursor = true := by kernel_rfl
theorem ok_slices_rotateLeft_int : ck 293 F_slices_rotateLeft_int = true := by kernel_rfl
theorem ok_slices_Reverse_api_Cursor_api_Cursor : ck 294 F_slices_Reverse_api_Cursor_api_Cursor = true := by kernel_rfl
theorem ok_slices_Reverse_int_int : ck 296 F_slices_Reverse_int_int = true := by kernel_rfl
theorem ok_spec_layer_abstract : ck 312 F_spec_layer_abstract = true := by kernel_rfl
theorem ok_spec_layer_check : ck 313 F_spec_layer_check = true := by kernel_rfl
theorem ok_spec_layer_start : ck 314 F_spec_layer_start = true := by kernel_rfl
theorem ok_spec_mutexes_effect : ck 315 F_spec_mutexes_effect = true := by kernel_rfl
theorem ok_spec_locks_effect : ck 319 F_spec_locks_effect = true := by kernel_rfl
theorem ok_slices_Delete_int_int : ck 321 F_slices_Delete_int_int = true := by kernel_rfl
theorem ok_spec_semaphores_effect : ck 322 F_spec_semaphores_effect = true := by kernel_rfl
theorem ok_spec_barriers_abstract : ck 324 F_spec_barriers_abstract = true := by kernel_rfl
theorem ok_spec_barriers_effect : ck 325 F_spec_barriers_effect = true := by kernel_rfl
theorem ok_spec_channels_abstract : ck 327 F_spec_channels_abstract = true := by kernel_rfl
theorem ok_spec_channels_effect : ck 328 F_spec_channels_effect = true := by kernel_rfl
theorem ok_spec_room : ck 330 F_spec_room = true := by kernel_rfl
theorem ok_spec_topics_abstract : ck 332 F_spec_topics_abstract = true := by kernel_rfl
theorem ok_spec_topics_effect : ck 333 F_spec_topics_effect = true := by kernel_rfl
theorem ok_slices_BinarySearchFunc_api_Cursor_api_Cursor_int : ck 335 F_slices_BinarySearchFunc_api_Cursor_api_Cursor_int = true := by kernel_rfl
theorem ok_spec_topics_effectC1 : ck 336 F_spec_topics_effectC1 = true := by kernel_rfl
theorem ok_spec_limiters_effect : ck 339 F_spec_limiters_effect = true := by kernel_rfl
theorem ok_spec_futures_effect : ck 341 F_spec_futures_effect = true := by kernel_rfl
theorem okR_slices_Insert_int_int : ck 263 R_slices_Insert_int_int = true := by kernel_rfl
theorem okR_slices_Insert_api_Cursor_api_Cursor : ck 237 R_slices_Insert_api_Cursor_api_Cursor = true := by kernel_rfl
theorem code_of_ck {f : Nat} {F : F} (h : ck f F = true) : FnCode Tryz.prog phi f F := by
  unfold ck at h
  split at h
  · rename_i fn hf
    split at h
    · rename_i c hc
      simp only [Bool.and_eq_true, Bool.not_eq_true'] at h
      exact ⟨fn, c, hf, h.1, hc, h.2.1, h.2.2⟩
    · simp at h
  · cases h
theorem mixed : Tryz.prog.follows .mixedOrders = true := by kernel_rfl
theorem laid : laidOutB Tryz.prog = true := by kernel_rfl
set_option maxHeartbeats 4000000 in
theorem hF1 : ∀ f F, P1 f = some F → FnOk Tryz.prog phi f F := by
  intro f F h
  unfold P1 at h
  split at h
  · cases h; exact .inl ⟨rfl, code_of_ck ok_slices_ContainsFunc_int_int⟩
  · cases h; exact .inl ⟨rfl, code_of_ck ok_channel_validC1⟩
  · cases h; exact .inl ⟨rfl, code_of_ck ok_channel_fine⟩
  · cases h; exact .inl ⟨rfl, code_of_ck ok_channel_vain⟩
  · cases h; exact .inl ⟨rfl, code_of_ck ok_topic_number⟩
  · cases h; exact .inl ⟨rfl, code_of_ck ok_slices_Clone_api_Cursor_api_Cursor⟩
  · cases h; exact .inl ⟨rfl, code_of_ck ok_topic_findC1⟩
  · cases h; exact .inl ⟨rfl, code_of_ck ok_slices_ContainsFunc_api_Cursor_api_Cursor⟩
  · cases h; exact .inl ⟨rfl, code_of_ck ok_topic_fullC1⟩
  · cases h; exact .inl ⟨rfl, code_of_ck ok_topic_waiting⟩
  · cases h; exact .inl ⟨rfl, code_of_ck ok_future_cell_plain⟩
  · cases h; exact .inl ⟨rfl, code_of_ck ok_future_cell_queued⟩
  · cases h; exact .inl ⟨rfl, code_of_ck ok_slices_Index_int_int⟩
  · cases h; exact .inl ⟨rfl, code_of_ck ok_slices_BinarySearch_int_int⟩
  · cases h; exact .inl ⟨rfl, code_of_ck ok_channel_fineC1⟩
  · cases h; exact .inl ⟨rfl, code_of_ck ok_channel_vainC1⟩
  · cases h; exact .inl ⟨rfl, code_of_ck ok_channel_foreign⟩
  · cases h; exact .inl ⟨rfl, code_of_ck ok_slices_rotateRight_api_Cursor⟩
  · cases h; exact .inl ⟨rfl, code_of_ck ok_topic_waitingC1⟩
  · cases h; exact .inl ⟨rfl, code_of_ck ok_cmp_isNaN_int⟩
  · cases h; exact .inl ⟨rfl, code_of_ck ok_cmp_Less_int⟩
  · cases h; exact .inl ⟨rfl, code_of_ck ok_slices_isNaN_int⟩
  · cases h; exact .inl ⟨rfl, code_of_ck ok_slices_rotateRight_int⟩
  · cases h; exact .inl ⟨rfl, code_of_ck ok_channel_foreignC1⟩
  · cases h; exact .inl ⟨rfl, code_of_ck ok_slices_rotateLeft_api_Cursor⟩
  · cases h; exact .inl ⟨rfl, code_of_ck ok_slices_rotateLeft_int⟩
  · cases h; exact .inl ⟨rfl, code_of_ck ok_slices_Reverse_api_Cursor_api_Cursor⟩
  · cases h; exact .inl ⟨rfl, code_of_ck ok_slices_Reverse_int_int⟩
  · cases h; exact .inl ⟨rfl, code_of_ck ok_spec_layer_abstract⟩
  · cases h; exact .inl ⟨rfl, code_of_ck ok_spec_layer_check⟩
  · cases h; exact .inl ⟨rfl, code_of_ck ok_spec_layer_start⟩
  · cases h; exact .inl ⟨rfl, code_of_ck ok_spec_mutexes_effect⟩
  · cases h; exact .inl ⟨rfl, code_of_ck ok_spec_locks_effect⟩
  · cases h; exact .inl ⟨rfl, code_of_ck ok_slices_Delete_int_int⟩
  · cases h; exact .inl ⟨rfl, code_of_ck ok_spec_semaphores_effect⟩
  · cases h; exact .inl ⟨rfl, code_of_ck ok_spec_barriers_abstract⟩
  · cases h; exact .inl ⟨rfl, code_of_ck ok_spec_barriers_effect⟩
  · cases h; exact .inl ⟨rfl, code_of_ck ok_spec_channels_abstract⟩
  · cases h; exact .inl ⟨rfl, code_of_ck ok_spec_channels_effect⟩
  · cases h; exact .inl ⟨rfl, code_of_ck ok_spec_room⟩
  · cases h; exact .inl ⟨rfl, code_of_ck ok_spec_topics_abstract⟩
  · cases h; exact .inl ⟨rfl, code_of_ck ok_spec_topics_effect⟩
  · cases h; exact .inl ⟨rfl, code_of_ck ok_slices_BinarySearchFunc_api_Cursor_api_Cursor_int⟩
  · cases h; exact .inl ⟨rfl, code_of_ck ok_spec_topics_effectC1⟩
  · cases h; exact .inl ⟨rfl, code_of_ck ok_spec_limiters_effect⟩
  · cases h; exact .inl ⟨rfl, code_of_ck ok_spec_futures_effect⟩
  · cases h; exact .inr ⟨_, rfl, ins_ok mixed lkok (code_of_ck okR_slices_Insert_int_int) rfl rfl rfl (by decide)⟩
  · cases h; exact .inr ⟨_, rfl, ins_ok mixed lkok (code_of_ck okR_slices_Insert_api_Cursor_api_Cursor) rfl rfl rfl (by decide)⟩
  · cases h
set_option maxHeartbeats 4000000 in
theorem hF : ∀ f F, P f = some F → FnOk Tryz.prog phi f F := by
  intro f F h
  unfold P at h
  split at h
  · cases h; exact .inl ⟨rfl, code_of_ck ok_nurserylaw26_SpecMany⟩
  · cases h; exact .inl ⟨rfl, code_of_ck ok_nurserylaw26_awake⟩
  · cases h; exact .inl ⟨rfl, code_of_ck ok_spec_Effect⟩
  · cases h; exact .inl ⟨rfl, code_of_ck ok_spec_Enabled⟩
  · cases h; exact .inl ⟨rfl, code_of_ck ok_spec_Accepts⟩
  · cases h; exact .inl ⟨rfl, code_of_ck ok_spec_Initial⟩
  · cases h; exact .inl ⟨rfl, code_of_ck ok_nurserylaw26_object⟩
  · cases h; exact .inl ⟨rfl, code_of_ck ok_spec_EffectC1⟩
  · cases h; exact .inl ⟨rfl, code_of_ck ok_spec_of⟩
  · cases h; exact .inl ⟨rfl, code_of_ck ok_spec_operations⟩
  · cases h; exact .inl ⟨rfl, code_of_ck ok_spec_result⟩
  · cases h; exact .inl ⟨rfl, code_of_ck ok_slices_ContainsFunc_api_Waiter_api_Waiter⟩
  · cases h; exact .inl ⟨rfl, code_of_ck ok_mutex_New⟩
  · cases h; exact .inl ⟨rfl, code_of_ck ok_mutex_Check⟩
  · cases h; exact .inl ⟨rfl, code_of_ck ok_rwlock_New⟩
  · cases h; exact .inl ⟨rfl, code_of_ck ok_rwlock_Check⟩
  · cases h; exact .inl ⟨rfl, code_of_ck ok_semaphore_New⟩
  · cases h; exact .inl ⟨rfl, code_of_ck ok_semaphore_Check⟩
  · cases h; exact .inl ⟨rfl, code_of_ck ok_barrier_New⟩
  · cases h; exact .inl ⟨rfl, code_of_ck ok_barrier_Check⟩
  · cases h; exact .inl ⟨rfl, code_of_ck ok_channel_New⟩
  · cases h; exact .inl ⟨rfl, code_of_ck ok_channel_Check⟩
  · cases h; exact .inl ⟨rfl, code_of_ck ok_topic_New⟩
  · cases h; exact .inl ⟨rfl, code_of_ck ok_topic_Check⟩
  · cases h; exact .inl ⟨rfl, code_of_ck ok_limiter_New⟩
  · cases h; exact .inl ⟨rfl, code_of_ck ok_limiter_Check⟩
  · cases h; exact .inl ⟨rfl, code_of_ck ok_future_New⟩
  · cases h; exact .inl ⟨rfl, code_of_ck ok_future_Check⟩
  · cases h; exact .inl ⟨rfl, code_of_ck ok_slices_IndexFunc_api_Cursor_api_Cursor⟩
  · cases h; exact .inl ⟨rfl, code_of_ck ok_slices_IndexFunc_api_Waiter_api_Waiter⟩
  · cases h; exact .inl ⟨rfl, code_of_ck ok_mutex_valid⟩
  · cases h; exact .inl ⟨rfl, code_of_ck ok_mutex_isTask⟩
  · cases h; exact .inl ⟨rfl, code_of_ck ok_rwlock_valid⟩
  · cases h; exact .inl ⟨rfl, code_of_ck ok_rwlock_isTask⟩
  · cases h; exact .inl ⟨rfl, code_of_ck ok_waitlist_Find⟩
  · cases h; exact .inl ⟨rfl, code_of_ck ok_rwlock_changed⟩
  · cases h; exact .inl ⟨rfl, code_of_ck ok_rwlock_holds⟩
  · cases h; exact .inl ⟨rfl, code_of_ck ok_rwlock_lock_free⟩
  · cases h; exact .inl ⟨rfl, code_of_ck ok_rwlock_lock_writes⟩
  · cases h; exact .inl ⟨rfl, code_of_ck ok_rwlock_lock_serve⟩
  · cases h; exact .inl ⟨rfl, code_of_ck ok_waitlist_Check⟩
  · cases h; exact .inl ⟨rfl, code_of_ck ok_semaphore_waits⟩
  · cases h; exact .inl ⟨rfl, code_of_ck ok_waitlist_Tasks⟩
  · cases h; exact .inl ⟨rfl, code_of_ck ok_slices_Clone_api_Waiter_api_Waiter⟩
  · cases h; exact .inl ⟨rfl, code_of_ck ok_channel_valid⟩
  · cases h; exact .inl ⟨rfl, code_of_ck ok_channel_number⟩
  · cases h; exact .inl ⟨rfl, code_of_ck ok_topic_cursors⟩
  · cases h; exact .inl ⟨rfl, code_of_ck ok_topic_queue⟩
  · cases h; exact .inl ⟨rfl, code_of_ck ok_topic_find⟩
  · cases h; exact .inl ⟨rfl, code_of_ck ok_slices_Delete_api_Cursor_api_Cursor⟩
  · cases h; exact .inl ⟨rfl, code_of_ck ok_topic_full⟩
  · cases h; exact .inl ⟨rfl, code_of_ck ok_future_cell_valid⟩
  · cases h; exact .inl ⟨rfl, code_of_ck ok_future_number⟩
  · cases h; exact .inl ⟨rfl, code_of_ck ok_mutex_validC1⟩
  · cases h; exact .inl ⟨rfl, code_of_ck ok_rwlock_queued⟩
  · cases h; exact .inl ⟨rfl, code_of_ck ok_slices_Clone_int_int⟩
  · cases h; exact .inl ⟨rfl, code_of_ck ok_slices_Contains_int_int⟩
  · cases h; exact .inl ⟨rfl, code_of_ck ok_rwlock_lock_grant⟩
  · cases h; exact .inl ⟨rfl, code_of_ck ok_slices_IndexFunc_int_int⟩
  · cases h; exact .inl ⟨rfl, code_of_ck ok_waitlist_valid⟩
  · exact hF1 _ _ h
end Go.VS
namespace Go.VS.Sp
abbrev tI : Ty := .i .i64
def tW : Ty := .st [tI, tI, tI, tI, tI]
def tCur : Ty := .st [tI, .sl 1 tI]
def tS : Ty := .st [tI, tI, tI, .sl 1 tI, .sl 5 tW, .sl 1 tI, .sl 2 tCur, .b, tI]
end Go.VS.Sp
namespace Go.VS.Sp
def opI (i : Nat) : Int := 50 + 2 * ((i % 2 : Nat) : Int)
def cI (i : Nat) : Cl := ⟨1, opI i, 0, 0, 0⟩
def wI (i : Nat) : Wk := ⟨1, opI i, 0, true, 0⟩
def lkS : S := { (ini 1 0).pl with own := 1 }
theorem st1 : acS 1 0 0 (ini 1 0).pl ⟨1, 50, 0, 0, 0⟩ ⟨1, 50, 0, true, 0⟩ = some lkS := by decide
theorem st2 : acS 1 0 0 lkS ⟨1, 52, 0, 0, 0⟩ ⟨1, 52, 0, true, 0⟩ = some (ini 1 0).pl := by decide
theorem acc_pairs : ∀ (m i : Nat), i % 2 = 0 → accF 1 0 0 (ini 1 0).pl ((List.range' i (2 * m)).map cI) ((List.range' i (2 * m)).map wI) = some (ini 1 0).pl
  | 0, i, _ => by simp [accF]
  | m + 1, i, h => by
    have e : 2 * (m + 1) = 2 * m + 1 + 1 := by omega
    have h2 : (i + 1) % 2 = 1 := by omega
    have ih := acc_pairs m (i + 1 + 1) (by omega)
    rw [e, List.range'_succ, List.range'_succ]
    simp only [List.map_cons]
    unfold accF
    have e1 : cI i = ⟨1, 50, 0, 0, 0⟩ := by simp [cI, opI, h]
    have e2 : wI i = ⟨1, 50, 0, true, 0⟩ := by simp [wI, opI, h]
    have e3 : cI (i + 1) = ⟨1, 52, 0, 0, 0⟩ := by simp [cI, opI, h2]
    have e4 : wI (i + 1) = ⟨1, 52, 0, true, 0⟩ := by simp [wI, opI, h2]
    rw [e1, e2, st1, Option.bind_some]
    unfold accF
    rw [e3, e4, st2, Option.bind_some]
    exact ih
theorem accB_many (m : Nat) : accB 1 0 0 ((List.range (2 * m)).map cI) ((List.range (2 * m)).map wI) = decide (((2 * m : Nat) : Int) ≤ 1000) := by
  unfold accB
  have e0 : newO 1 0 0 = 0 := by decide
  have hp := acc_pairs m 0 rfl
  rw [← List.range_eq_range'] at hp
  rw [e0, hp]
  have hc : (ckO 1 0 0 (ini 1 0).pl == 0) = true := by decide
  simp only [hc, List.length_map, List.length_range]
  have h : decide ((1000 : Int) < 2 * (m : Int)) = !decide (2 * (m : Int) ≤ 1000) := by
    by_cases h : 2 * (m : Int) ≤ 1000
    · simp [h]
    · simp [h]; omega
  simp [h]
theorem loop_many (n : Nat) (hn : n ≤ 2000) : ∀ (d i : Nat), i + d = n → 1 ≤ i →
    ev P (.loop 0 [5, 6, 7, 17, 18] F_nurserylaw26_SpecMany_L0 [(5, .d (I' n)), (6, .asl 0 0 i), (7, .asl 1 0 i), (17, .d (I' n)), (18, .d (I' i))]
      [.arrD 5 true (((List.range i).map cI).map Cl.row), .arrD 5 true (((List.range i).map wI).map Wk.row)]) =
      some (.out (.exit 0) [(5, .d (I' n)), (6, .asl 0 0 n), (7, .asl 1 0 n)] [.arrD 5 true (((List.range n).map cI).map Cl.row), .arrD 5 true (((List.range n).map wI).map Wk.row)]) := by
  intro d
  induction d with
  | zero =>
    intro i hi h1
    have : i = n := by omega
    subst this
    rw [ev_loop]
    conv => lhs; arg 4; unfold F_nurserylaw26_SpecMany_L0
    simp [reachC, cut, List.idxOf_cons, rg2]
  | succ d ih =>
    intro i hi h1
    have hlt : (i : Int) < n := by omega
    have hnext : IntKind.i64.wrap ((i : Int) + 1) = i + 1 := wrap_i64 (by omega) (by omega)
    have ih' := ih (i + 1) (by omega) (by omega)
    have hm : (i : Int).tmod 2 = (i : Int) % 2 := Int.tmod_eq_emod_of_nonneg (by omega)
    have w1 : IntKind.i64.wrap (2 * ((i : Int) % 2)) = 2 * ((i : Int) % 2) := wrap_i64 (by omega) (by omega)
    have w2 : IntKind.i64.wrap (50 + 2 * ((i : Int) % 2)) = 50 + 2 * ((i : Int) % 2) := wrap_i64 (by omega) (by omega)
    rw [List.range_succ, List.map_append, List.map_append, List.map_append, List.map_append] at ih'
    simp only [List.map_cons, List.map_nil, cI, wI, opI, Cl.row, Wk.row] at ih'
    have hr : i + 1 ≤ room := by unfold room; omega
    have t1 : ∀ X : List (List D), X.length = i → X.take i = X := fun X h => List.take_of_length_le (by omega)
    have l1 : (((List.range i).map cI).map Cl.row).length = i := by simp
    have l2 : (((List.range i).map wI).map Wk.row).length = i := by simp
    generalize hL : ((List.range i).map cI).map Cl.row = L1 at *
    generalize hL2 : ((List.range i).map wI).map Wk.row = L2 at *
    generalize hR : some (Res.out (.exit 0) [(5, V.d (I' n)), (6, V.asl 0 0 n), (7, V.asl 1 0 n)] [O.arrD 5 true (((List.range n).map cI).map Cl.row), O.arrD 5 true (((List.range n).map wI).map Wk.row)]) = R at ih' ⊢
    clear hR
    have h0 : (0 : Int) ≤ i := by omega
    have e3 : L1.take i = L1 := t1 _ l1
    have e4 : L2.take i = L2 := t1 _ l2
    rw [ev_loop]
    conv => lhs; arg 4; unfold F_nurserylaw26_SpecMany_L0
    simp at ih'
    simp [hlt, hm, w1, w2, hnext, hr, l1, l2, e3, e4, h0, reachC, cut, List.idxOf_cons, rg2, Nat.not_succ_le_self]
    exact ih'
theorem loop_first (n : Nat) (hn : n ≤ 2000) (h1 : 1 ≤ n) :
    ev P (.loop 0 [5, 6, 7, 17, 18] F_nurserylaw26_SpecMany_L0 [(5, .d (I' n)), (6, .d (.sl 5 true [])), (7, .d (.sl 5 true [])), (17, .d (I' n)), (18, .d (I' 0))] []) =
      some (.out (.exit 0) [(5, .d (I' n)), (6, .asl 0 0 n), (7, .asl 1 0 n)] [.arrD 5 true (((List.range n).map cI).map Cl.row), .arrD 5 true (((List.range n).map wI).map Wk.row)]) := by
  have ih' := loop_many n hn (n - 1) 1 (by omega) (by omega)
  simp only [List.range_succ, List.range_zero, List.nil_append, List.map_cons, List.map_nil] at ih'
  generalize hR : some (Res.out (.exit 0) [(5, V.d (I' n)), (6, V.asl 0 0 n), (7, V.asl 1 0 n)] [O.arrD 5 true (((List.range n).map cI).map Cl.row), O.arrD 5 true (((List.range n).map wI).map Wk.row)]) = R at ih' ⊢
  clear hR
  have hlt : 0 < n := by omega
  have w1 : IntKind.i64.wrap 50 = 50 := by decide
  have w3 : IntKind.i64.wrap 1 = 1 := by decide
  have w4 : IntKind.i64.wrap 0 = 0 := by decide
  have hr : 1 ≤ room := by decide
  simp [cI, wI, opI, Cl.row, Wk.row] at ih'
  rw [ev_loop]
  conv => lhs; arg 4; unfold F_nurserylaw26_SpecMany_L0
  simp [hlt, w1, w3, w4, hr, reachC, cut, List.idxOf_cons, rg2]
  exact ih'
theorem tkl (n : Nat) (X : List (List D)) (h : X.length = n) : X.take n = X := List.take_of_length_le (by omega)
theorem law_Many (n : Int) (h0 : 0 ≤ n) (h1 : n ≤ 255) (b : Bool) : ev P (.call nurserylaw26_SpecMany [.d (.i .u8 n), .d (.b b)] []) = some (.val (.d (.b true)) []) := by
  obtain ⟨k, rfl⟩ : ∃ k : Nat, n = k := ⟨n.toNat, by omega⟩
  have hm : (k : Int).tmod 3 = ((k % 3 : Nat) : Int) := rfl
  have hk3 : k % 3 < 3 := Nat.mod_lt _ (by decide)
  have wk : IntKind.i64.wrap (k : Int) = k := wrap_i64 (by omega) (by omega)
  rw [ev_call P_nurserylaw26_SpecMany rfl]
  generalize k % 3 = q at hm hk3
  have w2 : IntKind.i64.wrap (2 * (q : Int)) = ((2 * q : Nat) : Int) := by rw [wrap_i64 (by omega) (by omega)]; omega
  have w3 : IntKind.i64.wrap (998 + 2 * (q : Int)) = ((2 * (499 + q) : Nat) : Int) := by rw [wrap_i64 (by omega) (by omega)]; omega
  have acc : ∀ m : Nat, m ≤ 600 → ∀ nl : Bool, ev P (.call spec_Accepts [.d (.ag [.s [], I' 1, I' 0, I' 0]), .d (.sl 5 nl (((List.range (2 * m)).map cI).map Cl.row)), .d (.sl 5 nl (((List.range (2 * m)).map wI).map Wk.row))] []) = some (.val (.d (.b (decide (((2 * m : Nat) : Int) ≤ 1000)))) []) := by
    intro m hm nl
    rw [← accB_many]
    exact ev_Acc (.s []) 1 0 0 nl nl _ _ (by simp; omega) (by simp; omega)
  have l1 : ∀ n : Nat, (((List.range n).map cI).map Cl.row).length = n := fun n => by simp
  have l2 : ∀ n : Nat, (((List.range n).map wI).map Wk.row).length = n := fun n => by simp
  have big : ∀ m : Nat, 1 ≤ m → m ≤ 600 → ∃ A B : List (List D), A.length = 2 * m ∧ B.length = 2 * m ∧
      ev P (.loop 0 [5, 6, 7, 17, 18] F_nurserylaw26_SpecMany_L0 [(5, .d (I' (2 * m : Nat))), (6, .d (.sl 5 true [])), (7, .d (.sl 5 true [])), (17, .d (I' (2 * m : Nat))), (18, .d (I' 0))] []) =
      some (.out (.exit 0) [(5, .d (I' (2 * m : Nat))), (6, .asl 0 0 (2 * m)), (7, .asl 1 0 (2 * m))] [.arrD 5 true A, .arrD 5 true B]) ∧
      ev P (.call spec_Accepts [.d (.ag [.s [], I' 1, I' 0, I' 0]), .d (.sl 5 false A), .d (.sl 5 false B)] []) = some (.val (.d (.b (decide (((2 * m : Nat) : Int) ≤ 1000)))) []) := by
    intro m h1 h2
    exact ⟨_, _, l1 _, l2 _, loop_first (2 * m) (by omega) (by omega), acc m h2 false⟩
  have fin : ∀ m : Nat, 1 ≤ m → m ≤ 600 → ∀ (c : Bool), decide (((2 * m : Nat) : Int) ≤ 1000) = c → True := fun _ _ _ _ _ => trivial
  cases b
  · by_cases hq : q = 0
    · subst hq
      have a0 := acc 0 (by omega) true
      simp at a0
      have hL : ev P (.loop 0 [5, 6, 7, 17, 18] F_nurserylaw26_SpecMany_L0 [(5, .d (I' 0)), (6, .d (.sl 5 true [])), (7, .d (.sl 5 true [])), (17, .d (I' 0)), (18, .d (I' 0))] []) = some (.out (.exit 0) [(5, .d (I' 0)), (6, .d (.sl 5 true [])), (7, .d (.sl 5 true []))] []) := by
        rw [ev_loop]
        conv => lhs; arg 4; unfold F_nurserylaw26_SpecMany_L0
        simp
      simp at w2
      simp [F_nurserylaw26_SpecMany, wk, hm, w2, hL, thaw, freezeAll, freeze1, a0, ev_awake]
    · obtain ⟨A, B, hA, hB, hL, hC⟩ := big q (by omega) (by omega)
      have hle : decide (((2 * q : Nat) : Int) ≤ 1000) = true := by simp; omega
      rw [hle] at hC
      have tA := tkl _ A hA
      have tB := tkl _ B hB
      have hle' := of_decide_eq_true hle
      generalize 2 * q = z at *
      simp [F_nurserylaw26_SpecMany, wk, hm, w2, hL, thaw, freezeAll, freeze1, hA, hB, tA, tB, hC, hle', ev_awake]
  · obtain ⟨A, B, hA, hB, hL, hC⟩ := big (499 + q) (by omega) (by omega)
    have tA := tkl _ A hA
    have tB := tkl _ B hB
    generalize 2 * (499 + q) = z at *
    generalize hz : decide ((z : Int) ≤ 1000) = c at *
    simp [F_nurserylaw26_SpecMany, wk, hm, w2, w3, hL, thaw, freezeAll, freeze1, hA, hB, tA, tB, hC, hz, ev_awake]
end Go.VS.Sp
namespace Go.VS.Sp
abbrev tU : Ty := .i .u8
abbrev tB : Ty := .b
theorem l_Many (xs : List D) (h : WVs [tU, tB] xs) : ev P (.call nurserylaw26_SpecMany (xs.map V.d) []) = some (.val (.d (.b true)) []) := by
  simp only [WVs] at h
  obtain ⟨o, _, rfl, ho, s, _, rfl, hs, rfl⟩ := h
  simp only [WV, WT] at ho hs
  obtain ⟨n, hn, hk⟩ := ho
  obtain ⟨b, hb⟩ := hs
  obtain rfl : o = .i .u8 n := by simpa using hn
  obtain rfl : s = .b b := by simpa using hb
  simp only [InK] at hk
  have e1 : IntKind.u8.min = 0 := by decide
  have e2 : IntKind.u8.max = 255 := by decide
  rw [e1, e2] at hk
  have h0 : 0 ≤ n ∧ n ≤ 255 := hk
  exact law_Many n h0.1 h0.2 b
end Go.VS.Sp
