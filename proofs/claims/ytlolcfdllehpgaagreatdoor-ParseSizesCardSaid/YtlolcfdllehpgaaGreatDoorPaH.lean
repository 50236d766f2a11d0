/- CoPA PaT KcP0 KcP1 KcP2 KcP3 AncP PaW1 PaW2 -/
import Derived.Test.YtlolcfdllehpgaaGreatDoorPaG
import Derived.Test.YtlolcfdllehpgaaGreatDoorPaF
import Derived.Test.YtlolcfdllehpgaaGreatDoorProg
import Derived.Test.YtlolcfdllehpgaaGreatDoorPaA
import Derived.KernelRfl
set_option linter.unusedSimpArgs false
set_option linter.unusedVariables false
set_option linter.unusedSectionVars false
namespace Go.Ev
set_option maxRecDepth 100000
noncomputable def af3 : AFunc := .mk 1 (sq ([mc (.bool false) 5])
 (.seq (sq ([o1 (cf 8 []), o2 (.not u0) 1])
 (.cond k1 (sq ([mc (.bool false) 5])
 .ret) .skip))
 (.seq (sq ([ml 0, o1 (lt u0), o2 (gt u0 (.c (.int .i64 (.ofNat 4096)))) 2])
 (.cond k2 (sq ([mc (.bool true) 5])
 .ret) .skip))
 (sq ([ml 0, o1 (cf 9 [u0]), m0, ox 0, ox 1, ox 2, o2 (.alloc [.nilp]) 4, o1 (st 1 u0 u3), o1 (.move u3), mt 3 3])
 (sq ([ml 3, o1 (nn u0 (.c (.int .i64 (.ofNat 0)))), m0, o3 (lN 1 k4) 0 true, o3 (cf 10 [u0]) 1 true, o3 (en u0 (.c (.int .i64 (.ofNat 0)))) 2 true, o1 (pk u3 u0 (.c (.bool false))), m0, o3 (.move k3) 0 false, o3 (en u0 (.c (.int .i64 (.ofNat 0)))) 1 false, o3 (.move u0) 2 false, o3 (lN 1 k4) 0 true, o3 (.move k0) 1 true, o3 (lt u0) 2 true, o3 (cf 11 [u2, u0]) 3 true, o3 (pk u4 u0 (.c (.bool false))) 7 false, o1 (pk u8 (.c (.bool true)) u0), mt 0 5])
 .ret))))) [.val k5]
noncomputable def af8 : AFunc := .mk 0 (sq ([mc (.bool false) 7])
 (sq ([o1 (cf 9 [(.c (.str 26 201238614752453330410235576641456868381659233630383318147954022))]), m0, ox 0, ox 1, ox 2, o2 (.alloc [.nilp]) 0, o1 (st 1 u0 u3), o1 (.move u3), mt 3 1])
 (sq ([o1 (cf 9 [(.c (.str 21 182871710923389474175786820334794228673288699016550))]), m0, ox 0, ox 1, ox 2, o1 (.alloc [.nilp]), o1 (st 1 u0 u3), mt 3 4, mt 3 3])
 (sq ([o1 (cf 9 [(.c (.str 5 515940442486))]), m0, ox 0, ox 1, ox 2, o1 (.alloc [.nilp]), o1 (st 1 u0 u3), mt 3 6, mt 3 5])
 (sq ([o1 (lN 1 k0), o1 (cf 20 [u0, (.c (.int .i64 (.ofNat 0)))]), o1 (cf 20 [u0, (.c (.int .i64 (.ofNat 0)))]), o2 (.alloc [.nilp]) 2, o1 (st 1 u0 u1)])
 (sq ([ml 1, o1 (en u0 (.c (.int .i64 (.ofNat 0)))), m0, o3 (lN 1 k0) 0 true, o3 (cf 13 [u0]) 1 true, o3 (en u0 (.c (.int .i64 (.ofNat 1)))) 2 true, o1 (pk u3 u0 (.c (.bool false))), m0, o3 (lN 1 k0) 0 true, o3 (cf 14 [u0]) 1 true, o3 (en u0 (.c (.int .i64 (.ofNat 1)))) 2 true, o1 (pk u3 u0 (.c (.bool false))), m0, o3 (lN 1 k2) 0 true, o3 (cf 13 [u0]) 1 true, o3 (en u0 (.c (.int .i64 (.ofNat 6)))) 2 true, o1 (pk u3 u0 (.c (.bool false))), m0, o3 (lN 1 k2) 0 true, o3 (cf 20 [u0, (.c (.int .i64 (.ofNat 0)))]) 1 true, o3 (cf 20 [u0, (.c (.int .i64 (.ofNat 0)))]) 2 true, o3 (cf 13 [u0]) 3 true, o3 (en u0 (.c (.int .i64 (.ofNat 24)))) 4 true, o1 (pk u5 u0 (.c (.bool false))), m0, o3 (lN 1 k2) 0 true, o3 (cf 20 [u0, (.c (.int .i64 (.ofNat 0)))]) 1 true, o3 (cf 20 [u0, (.c (.int .i64 (.ofNat 0)))]) 2 true, o3 (cf 23 [u0]) 3 true, o3 (en u0 (.c (.int .i64 (.ofNat 1)))) 4 true, o1 (pk u5 u0 (.c (.bool false))), m0, o3 (lN 1 k2) 0 true, o3 (cf 20 [u0, (.c (.int .i64 (.ofNat 0)))]) 1 true, o3 (cf 20 [u0, (.c (.int .i64 (.ofNat 0)))]) 2 true, o3 (cf 24 [u0]) 3 true, o3 (en u0 (.c (.int .i64 (.ofNat 19)))) 4 true, o1 (pk u5 u0 (.c (.bool false))), m0, o3 (lN 1 k0) 0 true, o3 (cf 18 [u0]) 1 true, o3 (en u0 (.c (.str 47 75229058429591039359104473166271573744682509599169374227409512564160682176746127005125807165971543139154490455398))) 2 true, o1 (pk u3 u0 (.c (.bool false))), m0, o3 (.move k3) 0 true, o3 (en u0 (.c (.int .i64 (.ofNat 1)))) 1 true, o1 (pk u2 u0 (.c (.bool false))), m0, o3 (.move k4) 0 true, o3 (en u0 (.c (.int .i64 (.ofNat 18)))) 1 true, o1 (pk u2 u0 (.c (.bool false))), m0, o3 (.move k5) 0 true, o3 (en u0 (.c (.int .i64 (.ofNat 1)))) 1 true, o1 (pk u2 u0 (.c (.bool false))), m0, o3 (.move k6) 0 true, o3 (en u0 (.c (.int .i64 (.ofNat 5)))) 1 true, o1 (pk u2 u0 (.c (.bool false))), m0, o3 (lN 1 k0) 0 true, o3 (cf 10 [u0]) 1 true, o3 (en u0 (.c (.int .i64 (.ofNat 9)))) 2 true, o1 (pk u3 u0 (.c (.bool false))), m0, o3 (lN 1 k0) 0 true, o3 (cf 20 [u0, (.c (.int .i64 (.ofNat 7)))]) 1 true, o3 (cf 13 [u0]) 2 true, o3 (en u0 (.c (.int .i64 (.ofNat 0)))) 3 true, o1 (pk u4 u0 (.c (.bool false))), mt 0 7])
 .ret)))))) [.val k7]
noncomputable def af9 : AFunc := .mk 1 (sq ([o2 (.alloc [.nilp]) 4, mc (.int .i64 (.ofNat 0)) 9, mc (.int .i64 (.ofNat 0)) 10])
 (sq ([ml 0, o1 (cf 21 [u0]), m0, ox 0, ox 1, ox 2, mt 2 5, mt 2 3, mt 2 1])
 (.seq (sq ([ml 1, o2 (nn u0 (.c (.int .i64 (.ofNat 0)))) 2])
 (.cond k2 (sq ([o1 (.build [.nilp] []), ml 3, ml 1, o1 (st 1 k4 u2), mt 2 9, mt 2 10])
 .ret) .skip))
 (sq ([ml 5, ml 0, o1 (lt u0), o1 (.build [.nils, (.int .i64 (.ofNat 0)), (.int .i64 (.ofNat 0)), (.int .i64 (.ofNat 0))] [(.mk 0 1 u2), (.mk 2 1 u0)]), o1 (.box u0), mt 0 6])
 (sq ([ml 6, o1 (cf 25 [u0]), m0, ox 0, ox 1, o2 (.alloc [.nilp]) 7, o2 (.alloc [(.int .i64 (.ofNat 0)), (.int .i64 (.ofNat 0))]) 8, o1 (st 1 u1 u3), o1 (st 2 u1 u3)])
 (sq ([o1 (lN 1 k7), o1 (fa 0 k8), o1 (ld u0), o1 (fa 1 k8), o1 (ld u0), .mk (st 1 k4 u4) none none [.mk (ld u1) 0 none, .mk (ld u3) 2 none], mt 3 9, mt 2 10])
 .ret)))))) [.cellN 1 k4, .val k9, .val k10]
noncomputable def af10 : AFunc := .mk 1 (sq ([o2 (.box k0) 1, mc (.int .i64 (.ofNat 0)) 9])
 (.seq (sq ([o1 (fa 0 k1), o1 (ld u0), o2 (.eq false .ptr u0 (.c .nilp)) 2])
 (.cond k2 (sq ([mc (.int .i64 (.ofNat 0)) 9])
 .ret) .skip))
 (sq ([mc (.int .i64 (.ofNat 1)) 7])
 (.seq (sq ([o1 (fa 0 k1), o1 (ld u0), o1 (nc u0), o1 (fa 5 u0), o2 (ld u0) 6, o2 (ll u0) 4, mc (.int .i64 (.ofNat 0)) 3])
 (.block 0 (.loop (sq ([o2 (ls k3 k4) 5])
 (.seq (.cond k5 .skip (.exit 0))
 (.seq (.block 1 (sq ([o1 (ia 1 k6 k3), o1 (lN 1 u0), o2 (.alloc [.nilp]) 8, o1 (st 1 u0 u1)])
 (.ops [ml 7, o1 (lN 1 k8), o1 (cf 10 [u0]), o1 (ad u2 u0), mt 0 7])))
 (.ops [o1 (ad k3 (.c (.int .i64 (.ofNat 1)))), mt 0 3])))))))
 (sq ([ml 7, mt 0 9])
 .ret))))) [.val k9]
noncomputable def af11 : AFunc := .mk 2 (sq ([o2 (.box k0) 3, mc (.bool false) 7])
 (sq ([mc (.int .i64 (.ofNat 1)) 5])
 (.seq (sq ([mc (.int .i64 (.ofNat 0)) 2])
 (.block 0 (.loop (.seq (sq ([ml 2, o1 (lN 1 k3), o1 (cf 14 [u0]), o2 (ls u2 u0) 4])
 (.cond k4 .skip (.exit 0)))
 (.seq (.block 1 (sq ([ml 5, o1 (lN 1 k3), ml 2, o1 (cf 20 [u1, u0]), o1 (cf 10 [u0]), o1 (ad u4 u0), mt 0 5])
 (sq ([o1 (lN 1 k3), ml 2, o1 (cf 20 [u1, u0]), o1 (cf 13 [u0]), o1 (en u0 (.c (.int .i64 (.ofNat 0)))), m0, o3 (lN 1 k3) 0 false, o3 (.move k2) 1 false, o3 (cf 20 [u1, u0]) 2 false, o3 (.move k1) 3 false, o3 (cf 11 [u1, u0]) 4 false, o3 (.not u0) 5 false, o2 (pk u6 (.c (.bool true)) u0) 6])
 (.cond k6 (sq ([mc (.bool false) 7])
 .ret) .skip))))
 (.ops [ml 2, o1 (ad u0 (.c (.int .i64 (.ofNat 1)))), mt 0 2]))))))
 (sq ([ml 5, o1 (lN 1 k3), o1 (cf 10 [u0]), o1 (en u2 u0), m0, o3 (lN 1 k3) 0 true, o3 (cf 24 [u0]) 1 true, o3 (ge u0 (.c (.int .i64 (.ofNat 0)))) 2 true, o1 (pk u3 u0 (.c (.bool false))), m0, o3 (lN 1 k3) 0 true, o3 (.move k1) 1 true, o3 (cf 24 [u1]) 2 true, o3 (le u0 u1) 3 true, o1 (pk u4 u0 (.c (.bool false))), m0, o3 (lN 1 k3) 0 true, o3 (lN 1 k3) 1 true, .mk (cf 14 [u0]) (some (u2, true)) none [.mk (lN 1 k3) 1 (some (u2, true))], o3 (cf 20 [u2, u0]) 3 true, o3 (cf 10 [u0]) 4 true, o3 (en u0 (.c (.int .i64 (.ofNat 0)))) 5 true, o1 (pk u6 u0 (.c (.bool false))), mt 0 7])
 .ret)))) [.val k7]
noncomputable def af13 : AFunc := .mk 1 (sq ([o2 (.box k0) 1, mc (.int .i64 (.ofNat 0)) 2])
 (sq ([o1 (lN 1 k1), o1 (cf 28 [u0]), o1 (.field 0 1 false u0), mt 0 2])
 .ret)) [.val k2]
noncomputable def af14 : AFunc := .mk 1 (sq ([o2 (.box k0) 1, mc (.int .i64 (.ofNat 0)) 2])
 (sq ([o1 (lN 1 k1), o1 (cf 28 [u0]), o1 (.field 5 1 false u0), o1 (ll u0), mt 0 2])
 .ret)) [.val k2]
noncomputable def af18 : AFunc := .mk 1 (sq ([o2 (.box k0) 2, mc (.str 0 0) 3])
 (sq ([o1 (.build [.nils] []), o1 (.box u0), mt 0 1])
 (sq ([ml 1, o1 (lN 1 k2), o1 (cf 35 [u1, u0])])
 (sq ([ml 1, o1 (nc u0), o1 (fa 0 u0), o1 (ld u0), o1 (cf 36 [u0, (.c (.str 1 32))]), mt 0 3])
 .ret)))) [.val k3]
noncomputable def af20 : AFunc := .mk 2 (sq ([o2 (.box k0) 2, o2 (.alloc [.nilp]) 4])
 (.seq (sq ([ml 1, o1 (ls u0 (.c (.int .i64 (.ofNat 0)))), m0, o3 (.move k1) 0 false, o3 (lN 1 k2) 1 false, o3 (cf 14 [u0]) 2 false, o3 (ge u2 u0) 3 false, o2 (pk u4 (.c (.bool true)) u0) 3])
 (.cond k3 (sq ([o1 (.build [.nilp] []), o1 (st 1 k4 u0)])
 .ret) .skip))
 (sq ([o1 (fa 0 k2), o1 (ld u0), o1 (nc u0), o1 (fa 5 u0), o1 (ld u0), ml 1, o1 (ia 1 u1 u0), o1 (lN 1 u0), o1 (st 1 k4 u0)])
 .ret))) [.cellN 1 k4]
noncomputable def af21 : AFunc := .mk 1 (sq ([mc .nils 8, mc (.int .i64 (.ofNat 0)) 9, mc (.int .i64 (.ofNat 0)) 10])
 (.seq (sq ([ml 0, o1 (lt u0), o2 (gt u0 (.c (.int .i64 (.ofNat 4096)))) 1])
 (.cond k1 (sq ([mc .nils 8, mc (.int .i64 (.ofNat 4096)) 9, mc (.int .i64 (.ofNat 4)) 10])
 .ret) .skip))
 (sq ([mc .nils 7])
 (.seq (sq ([ml 0, o1 (cf 37 [u0]), mt 0 2])
 (.block 0 (.loop (.seq (sq ([ml 2, ml 0, o1 (lt u0), o2 (ls u2 u0) 3])
 (.cond k3 .skip (.exit 0)))
 (.seq (.block 1 (sq ([ml 0, ml 2, o1 (.sliceS u1 (some u0) none), o1 (cf 38 [u0]), m0, ox 0, ox 1, o2 (.alloc [(.int .i64 (.ofNat 0)), (.str 0 0), (.int .i64 (.ofNat 0))]) 6, o1 (st 3 u0 u2), mt 2 4])
 (.seq (sq ([ml 4, o2 (nn u0 (.c (.int .i64 (.ofNat 0)))) 5])
 (.cond k5 (sq ([ml 2, ml 4, mc .nils 8, mt 2 9, mt 2 10])
 .ret) .skip))
 (sq ([ml 2, o1 (fa 2 k6), o1 (st 1 u0 u1)])
 (sq ([ml 7, o1 (lN 3 k6), o1 (.bslice [(.int .i64 (.ofNat 0)), (.str 0 0), (.int .i64 (.ofNat 0))] 1 [(.mk 0 3 u0)]), o1 (ap 3 32 u2 u0), mt 0 7])
 (.ops [ml 2, o1 (fa 1 k6), o1 (ld u0), o1 (lt u0), o1 (ad u3 u0), mt 0 2]))))))
 (.ops [ml 2, ml 0, ml 2, o1 (.sliceS u1 (some u0) none), o1 (cf 37 [u0]), o1 (ad u4 u0), mt 0 2]))))))
 (sq ([ml 7, mt 0 8, mc (.int .i64 (.ofNat 0)) 9, mc (.int .i64 (.ofNat 0)) 10])
 .ret))))) [.val k8, .val k9, .val k10]
noncomputable def af23 : AFunc := .mk 1 (sq ([o2 (.box k0) 1, mc (.int .i64 (.ofNat 0)) 2])
 (sq ([o1 (lN 1 k1), o1 (cf 28 [u0]), o1 (.field 3 1 false u0), mt 0 2])
 .ret)) [.val k2]
noncomputable def af24 : AFunc := .mk 1 (sq ([o2 (.box k0) 1, mc (.int .i64 (.ofNat 0)) 2])
 (sq ([o1 (lN 1 k1), o1 (cf 28 [u0]), o1 (.field 4 1 false u0), mt 0 2])
 .ret)) [.val k2]
noncomputable def af25 : AFunc := .mk 1 (sq ([o2 (.alloc [.nilp]) 1, o2 (.alloc [(.int .i64 (.ofNat 0)), (.int .i64 (.ofNat 0))]) 2])
 (sq ([o1 (.mkFn 39 [] [k1, k2]), o1 (.dfr u0)])
 (sq ([o1 (cf 40 [(.c (.int .i64 (.ofNat 1))), (.c (.int .i64 (.ofNat 0))), (.c .nils)]), o1 (st 1 k1 u0)])
 (.seq (.block 0 (.loop (.seq (sq ([ml 0, o1 (nc u0), o1 (fa 1 u0), o1 (ld u0), ml 0, o1 (nc u0), o1 (fa 0 u0), o1 (ld u0), o1 (ll u0), o2 (ls u5 u0) 3])
 (.cond k3 .skip (.exit 0)))
 (.block 1 (.ops [o1 (fa 0 k1), o1 (ld u0), o1 (fa 0 k1), o1 (ld u0), o1 (nc u0), o1 (fa 5 u0), o1 (ld u0), ml 0, .mk (cf 41 [u0]) none none [.mk (ld u2) 1 none, .mk (ld u5) 4 none, .mk (ld u7) 6 none], o1 (.bslice [.nilp] 1 [(.mk 0 1 u0)]), .mk (ap 1 8 u3 u0) none none [.mk (ld u9) 8 none], o1 (nc u9), o1 (fa 5 u0), o1 (st 1 u0 u2)])))))
 (sq ([o1 (lN 1 k1), o1 (lN 2 k2), .mk (st 1 k1 u1) none none [.mk (lN 2 k2) 0 none], o1 (st 2 k2 u1)])
 .ret))))) [.cellN 1 k1, .cellN 2 k2]
noncomputable def af28 : AFunc := .mk 1 (sq ([o2 (.box k0) 1, o2 (.alloc [(.int .i64 (.ofNat 0)), (.str 0 0), (.str 0 0), (.int .i64 (.ofNat 0)), (.int .i64 (.ofNat 0)), .nils]) 3])
 (.seq (sq ([o1 (fa 0 k1), o1 (ld u0), o2 (.eq false .ptr u0 (.c .nilp)) 2])
 (.cond k2 (sq ([o1 (.build [(.int .i64 (.ofNat 0)), (.str 0 0), (.str 0 0), (.int .i64 (.ofNat 0)), (.int .i64 (.ofNat 0)), .nils] []), o1 (st 6 k3 u0)])
 .ret) .skip))
 (sq ([o1 (fa 0 k1), o1 (ld u0), o1 (nc u0), o1 (lN 6 u0), o1 (st 6 k3 u0)])
 .ret))) [.cellN 6 k3]
noncomputable def af33 : AFunc := .mk 1 (sq ([o2 (.box k0) 1, mc (.str 0 0) 2])
 (sq ([o1 (lN 1 k1), o1 (cf 28 [u0]), o1 (.field 1 1 false u0), mt 0 2])
 .ret)) [.val k2]
noncomputable def af35 : AFunc := .mk 2 (sq ([o2 (.box k1) 2])
 (sq ([o1 (lN 1 k2), o1 (cf 28 [u0]), o2 (.alloc [(iz 0), (.str 0 0), (.str 0 0), (iz 0), (iz 0), .nils]) 3, o1 (st 6 u0 u1)])
 (.block 0 (sq ([o1 (fa 0 k3), o1 (ld u0), o1 (ls u0 (.c (iz 1))), mt 0 4])
 (.cond k4 .skip (sq ([o1 (fa 0 k3), o1 (ld u0), o1 (le u0 (.c (iz 5))), mt 0 5])
 (.cond k5 (.ops [ml 0, o1 (lN 1 k2), o1 (lN 6 k3), o1 (cf 55 [u2, u1, u0])]) (sq ([o1 (fa 0 k3), o1 (ld u0), o1 (le u0 (.c (iz 14))), mt 0 6])
 (.cond k6 (.ops [ml 0, o1 (lN 1 k2), o1 (lN 6 k3), o1 (cf 56 [u2, u1, u0])]) (.ops [ml 0, o1 (lN 1 k2), o1 (lN 6 k3), o1 (cf 57 [u2, u1, u0])])))))))))) []
noncomputable def af37 : AFunc := .mk 1 (sq ([mc (.int .i64 (.ofNat 0)) 3])
 (sq ([mc (.int .i64 (.ofNat 0)) 1])
 (.block 0 (.loop (.block 1 (sq ([ml 1, ml 0, ml 1, o1 (.sliceS u1 (some u0) none), o1 (cf 61 [u0, (.c (.fn 62 [] []))]), o1 (ad u4 u0), mt 0 1])
 (.seq (sq ([ml 0, ml 1, o1 (.sliceS u1 (some u0) none), o1 (cf 63 [u0, (.c (.str 2 12079))]), o2 (.not u0) 2])
 (.cond k2 (sq ([ml 1, mt 0 3])
 .ret) .skip))
 (.ops [ml 1, ml 0, ml 1, o1 (.sliceS u1 (some u0) none), o1 (cf 61 [u0, (.c (.fn 64 [] []))]), o1 (ad u4 u0), mt 0 1])))))))) [.val k3]
noncomputable def af38 : AFunc := .mk 1 (sq ([o2 (.alloc [(.int .i64 (.ofNat 0)), (.str 0 0), (.int .i64 (.ofNat 0))]) 2, mc (.int .i64 (.ofNat 0)) 4])
 (.seq (.block 0 (sq ([ml 0, o1 (.idxS u0 (.c (.int .i64 (.ofNat 0)))), o1 (cf 65 [u0]), mt 0 1])
 (.cond k1 (sq ([ml 0, o1 (cf 66 [u0]), ox 0, ox 1, o1 (st 3 k2 u1), mt 1 4])
 .ret) (sq ([ml 0, o1 (.idxS u0 (.c (.int .i64 (.ofNat 0)))), o1 (cf 67 [u0]), mt 0 3])
 (.cond k3 (sq ([ml 0, o1 (cf 68 [u0]), ox 0, ox 1, o1 (st 3 k2 u1), mt 1 4])
 .ret) .skip)))))
 (sq ([ml 0, o1 (cf 69 [u0]), ox 0, ox 1, o1 (st 3 k2 u1), mt 1 4])
 .ret))) [.cellN 3 k2, .val k4]
noncomputable def af39 : AFunc := .mk 2 (.seq (.recov (some 2))
 (sq ([ml 2, o2 (.eq true .ifc u0 (.c .nili)) 3])
 (.cond k3 (.ops [o1 (.build [.nilp] []), ml 2, o1 (.assert 54 false (.agg [(.int .i64 (.ofNat 0)), (.int .i64 (.ofNat 0))]) u0), o1 (st 1 k0 u2), o1 (st 2 k1 u1)]) .skip))) []
noncomputable def af40 : AFunc := .mk 3 (sq ([o2 (.alloc [.nilp]) 3])
 (sq ([ml 0, ml 1, ml 2, o1 (.build [(.int .i64 (.ofNat 0)), (.str 0 0), (.str 0 0), (.int .i64 (.ofNat 0)), (.int .i64 (.ofNat 0)), .nils] [(.mk 0 1 u2), (.mk 4 1 u1), (.mk 5 1 u0)]), o1 (.box u0), o1 (.build [.nilp] [(.mk 0 1 u0)]), o1 (st 1 k3 u0)])
 .ret)) [.cellN 1 k3]
noncomputable def af41 : AFunc := .mk 1 (sq ([o2 (.alloc [.nilp]) 2])
 (.seq (.block 0 (sq ([ml 0, o1 (cf 70 [u0, (.c (.str 4 1701869940))]), mt 0 1])
 (.cond k1 (sq ([ml 0, o1 (cf 71 [u0]), o1 (st 1 k2 u0)])
 .ret) (sq ([ml 0, o1 (cf 70 [u0, (.c (.str 4 1668183398))]), mt 0 3])
 (.cond k3 (sq ([ml 0, o1 (cf 72 [u0]), o1 (st 1 k2 u0)])
 .ret) (sq ([ml 0, o1 (cf 70 [u0, (.c (.str 3 7496054))]), o1 (.not u0), mt 0 4])
 (.cond k4 (.ops [ml 0, o1 (cf 73 [u0])]) .skip)))))))
 (sq ([ml 0, o1 (cf 74 [u0, (.c (.int .i64 (.ofNat 3)))]), o2 (.alloc [.nilp]) 5, o1 (st 1 u0 u1)])
 (sq ([ml 0, o1 (cf 75 [u0, (.c (.str 1 59))])])
 (sq ([o1 (lN 1 k5), o1 (st 1 k2 u0)])
 .ret))))) [.cellN 1 k2]
noncomputable def af55 : AFunc := .mk 3 (sq ([o2 (.box k1) 20, o2 (.box k2) 3])
 (sq ([o1 (fa 0 k3), o2 (ld u0) 4])
 (.block 0 (sq ([o1 (en k4 (.c (iz 1))), mt 0 5])
 (.cond k5 (sq ([o1 (fa 5 k3), o2 (ld u0) 9, o2 (ll u0) 7, mc (iz 0) 6])
 (.block 1 (.loop (sq ([o2 (ls k6 k7) 8])
 (.seq (.cond k8 .skip (.exit 1))
 (.seq (.block 2 (sq ([o1 (ia 1 k9 k6), o1 (lN 1 u0), o2 (.alloc [.nilp]) 10, o1 (st 1 u0 u1)])
 (.ops [ml 0, o1 (lN 1 k10), o1 (cf 35 [u1, u0])])))
 (.ops [o1 (ad k6 (.c (iz 1))), mt 0 6]))))))) (sq ([o1 (en k4 (.c (iz 2))), mt 0 11])
 (.cond k11 (sq ([ml 0, o1 (fa 1 k3), o1 (ld u0), o1 (.bslice [(.str 0 0), (.str 0 0), (.str 0 0), (.str 0 0)] 4 [(.mk 0 1 (.c (.str 4 1701869940))), (.mk 1 1 u0), (.mk 2 1 (.c (.str 6 127970521019507))), (.mk 3 1 (.c (.str 1 123)))]), o1 (cf 81 [u3, u0])])
 (.seq (sq ([o1 (fa 5 k3), o2 (ld u0) 15, o2 (ll u0) 13, mc (iz 0) 12])
 (.block 3 (.loop (sq ([o2 (ls k12 k13) 14])
 (.seq (.cond k14 .skip (.exit 3))
 (.seq (.block 4 (sq ([o1 (ia 1 k15 k12), o1 (lN 1 u0), o2 (.alloc [.nilp]) 16, o1 (st 1 u0 u1)])
 (sq ([ml 0, o1 (lN 1 k16), o1 (cf 35 [u1, u0])])
 (.ops [ml 0, o1 (.bslice [(.str 0 0)] 1 [(.mk 0 1 (.c (.str 1 59)))]), o1 (cf 81 [u1, u0])]))))
 (.ops [o1 (ad k12 (.c (iz 1))), mt 0 12])))))))
 (.ops [ml 0, o1 (.bslice [(.str 0 0)] 1 [(.mk 0 1 (.c (.str 1 125)))]), o1 (cf 81 [u1, u0])]))) (sq ([o1 (en k4 (.c (iz 3))), mt 0 17])
 (.cond k17 (sq ([ml 0, o1 (fa 1 k3), o1 (ld u0), o1 (.bslice [(.str 0 0), (.str 0 0)] 2 [(.mk 0 1 (.c (.str 3 7496054))), (.mk 1 1 u0)]), o1 (cf 81 [u3, u0])])
 (sq ([ml 0, o1 (fa 2 k3), o1 (ld u0), o1 (cf 82 [u2, u0])])
 (.ops [ml 0, o1 (.bslice [(.str 0 0)] 1 [(.mk 0 1 (.c (.str 1 59)))]), o1 (cf 81 [u1, u0])]))) (sq ([o1 (en k4 (.c (iz 4))), mt 0 18])
 (.cond k18 (sq ([o1 (fa 5 k3), o1 (ld u0), o1 (ll u0), o1 (sb u0 (.c (iz 1))), o1 (.max (.c (iz 0)) u0), mt 0 19])
 (sq ([ml 0, o1 (fa 1 k3), o1 (ld u0), o1 (.bslice [(.str 0 0), (.str 0 0), (.str 0 0)] 3 [(.mk 0 1 (.c (.str 4 1668183398))), (.mk 1 1 u0), (.mk 2 1 (.c (.str 1 40)))]), o1 (cf 81 [u3, u0])])
 (sq ([ml 0, o1 (fa 5 k3), o1 (ld u0), ml 19, o1 (.sliceV true 1 u1 none (some u0) none), o1 (cf 83 [u4, u0])])
 (sq ([ml 0, o1 (.bslice [(.str 0 0)] 1 [(.mk 0 1 (.c (.str 1 41)))]), o1 (cf 81 [u1, u0])])
 (sq ([ml 0, o1 (fa 2 k3), o1 (ld u0), o1 (cf 82 [u2, u0])])
 (.ops [ml 0, o1 (lN 1 k20), ml 19, o1 (cf 20 [u1, u0]), o1 (cf 35 [u3, u0])])))))) (sq ([o1 (en k4 (.c (iz 5))), mt 0 21])
 (.cond k21 (sq ([ml 0, o1 (fa 1 k3), o1 (ld u0), o1 (.bslice [(.str 0 0)] 1 [(.mk 0 1 u0)]), o1 (cf 81 [u3, u0])])
 (.ops [ml 0, o1 (fa 2 k3), o1 (ld u0), o1 (cf 82 [u2, u0])])) .skip))))))))))))) []
noncomputable def af56 : AFunc := .mk 3 (sq ([o2 (.box k1) 12, o2 (.box k2) 3])
 (.seq (sq ([o1 (fa 0 k3), o2 (ld u0) 4])
 (.block 0 (sq ([o1 (en k4 (.c (iz 6))), mt 0 5])
 (.cond k5 (sq ([ml 0, o1 (.bslice [(.str 0 0)] 1 [(.mk 0 1 (.c (.str 1 123)))]), o1 (cf 81 [u1, u0])])
 (.seq (sq ([o1 (fa 5 k3), o2 (ld u0) 9, o2 (ll u0) 7, mc (iz 0) 6])
 (.block 1 (.loop (sq ([o2 (ls k6 k7) 8])
 (.seq (.cond k8 .skip (.exit 1))
 (.seq (.block 2 (sq ([o1 (ia 1 k9 k6), o1 (lN 1 u0), o2 (.alloc [.nilp]) 10, o1 (st 1 u0 u1)])
 (.ops [ml 0, o1 (lN 1 k10), o1 (cf 35 [u1, u0])])))
 (.ops [o1 (ad k6 (.c (iz 1))), mt 0 6])))))))
 (sq ([ml 0, o1 (.bslice [(.str 0 0)] 1 [(.mk 0 1 (.c (.str 1 125)))]), o1 (cf 81 [u1, u0])])
 .ret))) (.seq (sq ([o1 (en k4 (.c (iz 10))), mt 0 11])
 (.cond k11 .skip (.ops [o1 (en k4 (.c (iz 11))), mt 0 11])))
 (.cond k11 (sq ([ml 0, o1 (.bslice [(.str 0 0), (.str 0 0)] 2 [(.mk 0 1 (.c (.str 2 26217))), (.mk 1 1 (.c (.str 3 7499622)))]), o1 (fa 0 k3), o1 (ld u0), o1 (sb u0 (.c (iz 10))), o1 (ia 1 u3 u0), o1 (ld u0), o1 (.bslice [(.str 0 0)] 1 [(.mk 0 1 u0)]), o1 (cf 81 [u7, u0])])
 (sq ([ml 0, o1 (lN 1 k12), o1 (cf 20 [u0, (.c (iz 0))]), o1 (cf 35 [u2, u0])])
 (sq ([ml 0, o1 (lN 1 k12), o1 (cf 20 [u0, (.c (iz 1))]), o1 (cf 35 [u2, u0])])
 (.seq (sq ([o1 (lN 1 k12), o1 (cf 14 [u0]), o2 (gt u0 (.c (iz 2))) 13])
 (.cond k13 (sq ([ml 0, o1 (.bslice [(.str 0 0)] 1 [(.mk 0 1 (.c (.str 4 1702063205)))]), o1 (cf 81 [u1, u0])])
 (.ops [ml 0, o1 (lN 1 k12), o1 (cf 20 [u0, (.c (iz 2))]), o1 (cf 35 [u2, u0])])) .skip))
 .ret)))) (.seq (sq ([o1 (en k4 (.c (iz 7))), mt 0 14])
 (.cond k14 .skip (.ops [o1 (en k4 (.c (iz 8))), mt 0 14])))
 (.cond k14 (sq ([ml 0, o1 (fa 1 k3), o1 (ld u0), .mk .mkMap none none [], o1 (.mapUpd (.one .int) u0 (.c (iz 7)) (.c (.str 2 15674))), o1 (.mapUpd (.one .int) u1 (.c (iz 8)) (.c (.str 1 61))), o1 (.move u2), o1 (fa 0 k3), o1 (ld u0), o1 (.lookup (.one .int) (.str 0 0) false u2 u0), o1 (.bslice [(.str 0 0), (.str 0 0)] 2 [(.mk 0 1 u7), (.mk 1 1 u0)]), o1 (cf 81 [u10, u0])])
 (.ops [ml 0, o1 (lN 1 k12), o1 (cf 20 [u0, (.c (iz 0))]), o1 (cf 35 [u2, u0])])) (sq ([o1 (en k4 (.c (iz 9))), mt 0 15])
 (.cond k15 (sq ([ml 0, o1 (lN 1 k12), o1 (cf 20 [u0, (.c (iz 0))]), o1 (cf 35 [u2, u0])])
 (sq ([ml 0, o1 (fa 1 k3), o1 (ld u0), o1 (.bslice [(.str 0 0), (.str 0 0), (.str 0 0)] 3 [(.mk 0 1 (.c (.str 1 46))), (.mk 1 1 u0), (.mk 2 1 (.c (.str 1 61)))]), o1 (cf 81 [u3, u0])])
 (.ops [ml 0, o1 (lN 1 k12), o1 (cf 20 [u0, (.c (iz 1))]), o1 (cf 35 [u2, u0])]))) (sq ([o1 (en k4 (.c (iz 12))), mt 0 16])
 (.cond k16 (sq ([ml 0, o1 (.bslice [(.str 0 0), (.str 0 0)] 2 [(.mk 0 1 (.c (.str 5 500068610672))), (.mk 1 1 (.c (.str 1 40)))]), o1 (cf 81 [u1, u0])])
 (sq ([ml 0, o1 (lN 1 k12), o1 (cf 20 [u0, (.c (iz 0))]), o1 (cf 35 [u2, u0])])
 (.ops [ml 0, o1 (.bslice [(.str 0 0)] 1 [(.mk 0 1 (.c (.str 1 41)))]), o1 (cf 81 [u1, u0])]))) (sq ([o1 (en k4 (.c (iz 13))), mt 0 17])
 (.cond k17 (sq ([ml 0, o1 (.bslice [(.str 0 0)] 1 [(.mk 0 1 (.c (.str 6 121437875889522)))]), o1 (cf 81 [u1, u0])])
 (.ops [ml 0, o1 (fa 5 k3), o1 (ld u0), o1 (cf 83 [u2, u0])])) (sq ([o1 (en k4 (.c (iz 14))), mt 0 18])
 (.cond k18 (.ops [ml 0, o1 (lN 1 k12), o1 (cf 20 [u0, (.c (iz 0))]), o1 (cf 35 [u2, u0])]) .skip))))))))))))))))
 (.ops [ml 0, o1 (.bslice [(.str 0 0)] 1 [(.mk 0 1 (.c (.str 1 59)))]), o1 (cf 81 [u1, u0])]))) []
noncomputable def af57 : AFunc := .mk 3 (sq ([o2 (.box k1) 6, o2 (.box k2) 3])
 (sq ([o1 (fa 0 k3), o2 (ld u0) 4])
 (.block 0 (sq ([o1 (en k4 (.c (iz 20))), mt 0 5])
 (.cond k5 (sq ([ml 0, o1 (lN 1 k6), o1 (cf 20 [u0, (.c (iz 0))]), o1 (cf 35 [u2, u0])])
 (.ops [ml 0, o1 (fa 1 k3), o1 (ld u0), o1 (.bslice [(.str 0 0), (.str 0 0)] 2 [(.mk 0 1 (.c (.str 1 46))), (.mk 1 1 u0)]), o1 (cf 81 [u3, u0])])) (sq ([o1 (en k4 (.c (iz 21))), mt 0 7])
 (.cond k7 (sq ([ml 0, o1 (fa 1 k3), o1 (ld u0), o1 (.bslice [(.str 0 0), (.str 0 0)] 2 [(.mk 0 1 u0), (.mk 1 1 (.c (.str 1 40)))]), o1 (cf 81 [u3, u0])])
 (sq ([ml 0, o1 (fa 5 k3), o1 (ld u0), o1 (cf 83 [u2, u0])])
 (.ops [ml 0, o1 (.bslice [(.str 0 0)] 1 [(.mk 0 1 (.c (.str 1 41)))]), o1 (cf 81 [u1, u0])]))) (sq ([o1 (en k4 (.c (iz 23))), mt 0 8])
 (.cond k8 (sq ([ml 0, o1 (fa 3 k3), o1 (ld u0), o1 (cf 84 [u0]), o1 (.bslice [(.str 0 0), (.str 0 0)] 2 [(.mk 0 1 (.c (.str 1 40))), (.mk 1 1 u0)]), o1 (cf 81 [u4, u0])])
 (sq ([ml 0, o1 (lN 1 k6), o1 (cf 20 [u0, (.c (iz 0))]), o1 (cf 35 [u2, u0])])
 (.ops [ml 0, o1 (.bslice [(.str 0 0)] 1 [(.mk 0 1 (.c (.str 1 41)))]), o1 (cf 81 [u1, u0])]))) (sq ([o1 (en k4 (.c (iz 24))), mt 0 9])
 (.cond k9 (.ops [ml 0, o1 (lN 1 k6), o1 (fa 3 k3), o1 (ld u0), .mk (cf 84 [u0]) none none [.mk (lN 1 k6) 2 none], o1 (cf 85 [u4, u3, u0])]) (sq ([o1 (en k4 (.c (iz 25))), mt 0 10])
 (.cond k10 (.ops [ml 0, o1 (lN 1 k6), o1 (cf 85 [u1, u0, (.c (.str 2 9766))])]) (sq ([o1 (en k4 (.c (iz 26))), mt 0 11])
 (.cond k11 (.ops [ml 0, o1 (lN 1 k6), o1 (cf 85 [u1, u0, (.c (.str 2 31868))])]) (.ops [ml 0, o1 (lN 6 k3), o1 (cf 86 [u1, u0])])))))))))))))))) []
noncomputable def af61 : AFunc := .mk 2 (sq ([mc (.int .i64 (.ofNat 0)) 4])
 (sq ([mc (.int .i64 (.ofNat 0)) 2])
 (.seq (.block 0 (.loop (.seq (sq ([ml 2, ml 0, o1 (lt u0), o1 (ls u2 u0), m0, o3 (.move k1) 0 true, o3 (.move k0) 1 true, o3 (.move k2) 2 true, o3 (.idxS u1 u0) 3 true, o3 (.callV u3 [u0]) 4 true, o2 (pk u5 u0 (.c (.bool false))) 3])
 (.cond k3 .skip (.exit 0)))
 (.block 1 (.ops [ml 2, o1 (ad u0 (.c (.int .i64 (.ofNat 1)))), mt 0 2])))))
 (sq ([ml 2, mt 0 4])
 .ret)))) [.val k4]
noncomputable def af62 : AFunc := .mk 1 (sq ([mc (.bool false) 1])
 (sq ([ml 0, o1 (en u0 (.c (.int .u8 (.ofNat 32)))), m0, o3 (.move k0) 0 false, o3 (en u0 (.c (.int .u8 (.ofNat 9)))) 1 false, o1 (pk u2 (.c (.bool true)) u0), m0, o3 (.move k0) 0 false, o3 (en u0 (.c (.int .u8 (.ofNat 10)))) 1 false, o1 (pk u2 (.c (.bool true)) u0), m0, o3 (.move k0) 0 false, o3 (en u0 (.c (.int .u8 (.ofNat 13)))) 1 false, o1 (pk u2 (.c (.bool true)) u0), mt 0 1])
 .ret)) [.val k1]
noncomputable def af63 : AFunc := .mk 2 (sq ([mc (.bool false) 2])
 (sq ([ml 0, ml 1, o1 (cf 89 [u1, u0]), mt 0 2])
 .ret)) [.val k2]
noncomputable def af64 : AFunc := .mk 1 (sq ([mc (.bool false) 1])
 (sq ([ml 0, o1 (nn u0 (.c (.int .u8 (.ofNat 10)))), mt 0 1])
 .ret)) [.val k1]
noncomputable def af65 : AFunc := .mk 1 (sq ([mc (.bool false) 1])
 (sq ([ml 0, o1 (ge u0 (.c (.int .u8 (.ofNat 97)))), m0, o3 (.move k0) 0 true, o3 (le u0 (.c (.int .u8 (.ofNat 122)))) 1 true, o1 (pk u2 u0 (.c (.bool false))), m0, o3 (.move k0) 0 false, o3 (ge u0 (.c (.int .u8 (.ofNat 65)))) 1 false, o3 (.move u0) 2 false, o3 (.move k0) 0 true, o3 (le u0 (.c (.int .u8 (.ofNat 90)))) 1 true, o3 (pk u2 u0 (.c (.bool false))) 5 false, o1 (pk u6 (.c (.bool true)) u0), m0, o3 (.move k0) 0 false, o3 (en u0 (.c (.int .u8 (.ofNat 95)))) 1 false, o1 (pk u2 (.c (.bool true)) u0), mt 0 1])
 .ret)) [.val k1]
noncomputable def af66 : AFunc := .mk 1 (sq ([o2 (.alloc [(.int .i64 (.ofNat 0)), (.str 0 0), (.int .i64 (.ofNat 0))]) 4, mc (.int .i64 (.ofNat 0)) 5])
 (sq ([ml 0, ml 0, o1 (cf 61 [u0, (.c (.fn 90 [] []))]), o1 (.sliceS u2 none (some u0)), o1 (.build [(.int .i64 (.ofNat 0)), (.str 0 0), (.int .i64 (.ofNat 0))] [(.mk 0 1 (.c (.int .i64 (.ofNat 1)))), (.mk 1 1 u0)]), o2 (.alloc [(.int .i64 (.ofNat 0)), (.str 0 0), (.int .i64 (.ofNat 0))]) 1, o1 (st 3 u0 u1)])
 (.seq (sq ([o1 (fa 1 k1), o1 (ld u0), o2 (cf 91 [u0]) 2])
 (.cond k2 (.ops [o1 (fa 0 k1), o1 (st 1 u0 (.c (.int .i64 (.ofNat 2))))]) .skip))
 (.seq (sq ([o1 (fa 1 k1), o1 (ld u0), o1 (lt u0), o2 (gt u0 (.c (.int .i64 (.ofNat 12)))) 3])
 (.cond k3 (sq ([o1 (lN 3 k1), o1 (st 3 k4 u0), mc (.int .i64 (.ofNat 4)) 5])
 .ret) .skip))
 (sq ([o1 (lN 3 k1), o1 (st 3 k4 u0), mc (.int .i64 (.ofNat 0)) 5])
 .ret))))) [.cellN 3 k4, .val k5]
noncomputable def af67 : AFunc := .mk 1 (sq ([mc (.bool false) 1])
 (sq ([ml 0, o1 (ge u0 (.c (.int .u8 (.ofNat 48)))), m0, o3 (.move k0) 0 true, o3 (le u0 (.c (.int .u8 (.ofNat 57)))) 1 true, o1 (pk u2 u0 (.c (.bool false))), mt 0 1])
 .ret)) [.val k1]
noncomputable def af68 : AFunc := .mk 1 (sq ([o2 (.alloc [(.int .i64 (.ofNat 0)), (.str 0 0), (.int .i64 (.ofNat 0))]) 4, mc (.int .i64 (.ofNat 0)) 6])
 (sq ([ml 0, o1 (cf 61 [u0, (.c (.fn 67 [] []))]), mt 0 1])
 (sq ([ml 0, ml 1, o1 (.sliceS u1 none (some u0)), o1 (.build [(.int .i64 (.ofNat 0)), (.str 0 0), (.int .i64 (.ofNat 0))] [(.mk 0 1 (.c (.int .i64 (.ofNat 3)))), (.mk 1 1 u0)]), o2 (.alloc [(.int .i64 (.ofNat 0)), (.str 0 0), (.int .i64 (.ofNat 0))]) 3, o1 (st 3 u0 u1)])
 (.seq (sq ([ml 1, ml 0, o1 (lt u0), o1 (ls u2 u0), m0, o3 (.move k0) 0 true, o3 (.move k1) 1 true, o3 (.idxS u1 u0) 2 true, o3 (cf 65 [u0]) 3 true, o2 (pk u4 u0 (.c (.bool false))) 2])
 (.cond k2 (sq ([o1 (lN 3 k3), o1 (st 3 k4 u0), mc (.int .i64 (.ofNat 1)) 6])
 .ret) .skip))
 (sq ([o1 (fa 1 k3), o1 (ld u0), o1 (cf 92 [u0]), m0, ox 0, ox 1, o1 (.move u1), mt 1 5])
 (sq ([o1 (lN 3 k3), ml 5, o1 (st 3 k4 u1), mt 1 6])
 .ret)))))) [.cellN 3 k4, .val k6]
noncomputable def af69 : AFunc := .mk 1 (sq ([o2 (.box k0) 1, o2 (.alloc [(.int .i64 (.ofNat 0)), (.str 0 0), (.int .i64 (.ofNat 0))]) 4, mc (.int .i64 (.ofNat 0)) 5])
 (sq ([o1 (cf 94 []), o1 (.mkFn 95 [] [k1]), o1 (cf 93 [u1, u0]), mt 0 2])
 (.seq (sq ([ml 2, o2 (ls u0 (.c (.int .i64 (.ofNat 0)))) 3])
 (.cond k3 (sq ([o1 (.build [(.int .i64 (.ofNat 0)), (.str 0 0), (.int .i64 (.ofNat 0))] []), o1 (st 3 k4 u0), mc (.int .i64 (.ofNat 1)) 5])
 .ret) .skip))
 (sq ([o1 (cf 94 []), ml 2, o1 (ia 1 u1 u0), o1 (ld u0), o1 (.build [(.int .i64 (.ofNat 0)), (.str 0 0), (.int .i64 (.ofNat 0))] [(.mk 0 1 (.c (.int .i64 (.ofNat 4)))), (.mk 1 1 u0)]), o1 (st 3 k4 u0), mc (.int .i64 (.ofNat 0)) 5])
 .ret)))) [.cellN 3 k4, .val k5]
noncomputable def af70 : AFunc := .mk 2 (sq ([mc (.bool false) 3])
 (.seq (sq ([ml 0, ml 1, o1 (cf 96 [u1, u0]), o2 (.not u0) 2])
 (.cond k2 (sq ([mc (.bool false) 3])
 .ret) .skip))
 (sq ([ml 0, o1 (nc u0), o1 (fa 1 u0), o1 (ld u0), o1 (ad u0 (.c (.int .i64 (.ofNat 1)))), o1 (nc u4), o1 (fa 1 u0), o1 (st 1 u0 u2)])
 (sq ([mc (.bool true) 3])
 .ret)))) [.val k3]
noncomputable def af71 : AFunc := .mk 1 (sq ([o2 (.alloc [.nilp]) 3])
 (sq ([ml 0, o1 (cf 98 [u0]), o1 (cf 97 [(.c (.int .i64 (.ofNat 2))), u0, (.c .nils)]), o2 (.alloc [.nilp]) 2, o1 (st 1 u0 u1)])
 (sq ([ml 0, o1 (cf 75 [u0, (.c (.str 6 127970521019507))])])
 (sq ([ml 0, o1 (cf 75 [u0, (.c (.str 1 123))])])
 (.seq (.block 0 (.loop (.seq (sq ([ml 0, o1 (cf 70 [u0, (.c (.str 1 125))]), o2 (.not u0) 1])
 (.cond k1 .skip (.exit 0)))
 (.block 1 (sq ([o1 (fa 0 k2), o1 (ld u0), o1 (fa 0 k2), o1 (ld u0), o1 (nc u0), o1 (fa 5 u0), o1 (ld u0), ml 0, .mk (cf 74 [u0, (.c (.int .i64 (.ofNat 5)))]) none none [.mk (ld u2) 1 none, .mk (ld u5) 4 none, .mk (ld u7) 6 none], o1 (.bslice [.nilp] 1 [(.mk 0 1 u0)]), .mk (ap 1 8 u3 u0) none none [.mk (ld u9) 8 none], o1 (nc u9), o1 (fa 5 u0), o1 (st 1 u0 u2)])
 (.ops [ml 0, o1 (cf 75 [u0, (.c (.str 1 59))])]))))))
 (sq ([o1 (lN 1 k2), o1 (st 1 k3 u0)])
 .ret)))))) [.cellN 1 k3]
noncomputable def af72 : AFunc := .mk 1 (sq ([o2 (.alloc [.nilp]) 6])
 (sq ([ml 0, o1 (cf 98 [u0]), o1 (cf 97 [(.c (.int .i64 (.ofNat 4))), u0, (.c .nils)]), o2 (.alloc [.nilp]) 2, o1 (st 1 u0 u1)])
 (sq ([ml 0, o1 (cf 75 [u0, (.c (.str 1 40))])])
 (.seq (.block 0 (.loop (.seq (sq ([ml 0, o1 (cf 96 [u0, (.c (.str 1 41))]), o2 (.not u0) 1])
 (.cond k1 .skip (.exit 0)))
 (.block 1 (sq ([o1 (fa 0 k2), o1 (ld u0), o1 (fa 0 k2), o1 (ld u0), o1 (nc u0), o1 (fa 5 u0), o1 (ld u0), ml 0, .mk (cf 74 [u0, (.c (.int .i64 (.ofNat 5)))]) none none [.mk (ld u2) 1 none, .mk (ld u5) 4 none, .mk (ld u7) 6 none], o1 (.bslice [.nilp] 1 [(.mk 0 1 u0)]), .mk (ap 1 8 u3 u0) none none [.mk (ld u9) 8 none], o1 (nc u9), o1 (fa 5 u0), o1 (st 1 u0 u2)])
 (sq ([ml 0, o1 (cf 96 [u0, (.c (.str 1 41))]), o2 (.not u0) 3])
 (.cond k3 (sq ([ml 0, o1 (cf 75 [u0, (.c (.str 1 44))])])
 (sq ([ml 0, o2 (cf 96 [u0, (.c (.str 1 41))]) 4])
 (.cond k4 (.ops [ml 0, o1 (cf 73 [u0])]) .skip))) .skip)))))))
 (sq ([ml 0, o1 (cf 75 [u0, (.c (.str 1 41))])])
 (.seq (sq ([ml 0, o1 (cf 96 [u0, (.c (.str 1 123))]), o2 (.not u0) 5])
 (.cond k5 (.ops [o1 (fa 0 k2), o1 (ld u0), ml 0, .mk (cf 99 [u0]) none none [.mk (ld u2) 1 none], o1 (nc u2), o1 (fa 2 u0), o1 (st 1 u0 u2)]) .skip))
 (sq ([o1 (fa 0 k2), o1 (ld u0), o1 (fa 0 k2), o1 (ld u0), o1 (nc u0), o1 (fa 5 u0), o1 (ld u0), ml 0, .mk (cf 100 [u0]) none none [.mk (ld u2) 1 none, .mk (ld u5) 4 none, .mk (ld u7) 6 none], o1 (.bslice [.nilp] 1 [(.mk 0 1 u0)]), .mk (ap 1 8 u3 u0) none none [.mk (ld u9) 8 none], o1 (nc u9), o1 (fa 5 u0), o1 (st 1 u0 u2)])
 (sq ([o1 (lN 1 k2), o1 (st 1 k6 u0)])
 .ret)))))))) [.cellN 1 k6]
noncomputable def af73 : AFunc := .mk 1 (.ops [ml 0, o1 (cf 101 [u0]), o1 (.field 2 1 false u0), o1 (.build [(.int .i64 (.ofNat 0)), (.int .i64 (.ofNat 0))] [(.mk 0 1 u0), (.mk 1 1 (.c (.int .i64 (.ofNat 1))))]), o1 (.mkIfc 54 u0), o1 (.panic u0)]) []
noncomputable def af74 : AFunc := .mk 2 (sq ([o2 (.alloc [.nilp]) 3])
 (sq ([ml 1, ml 0, o1 (cf 98 [u0]), o1 (cf 97 [u2, u0, (.c .nils)]), o2 (.alloc [.nilp]) 2, o1 (st 1 u0 u1)])
 (sq ([o1 (fa 0 k2), o1 (ld u0), ml 0, .mk (cf 99 [u0]) none none [.mk (ld u2) 1 none], o1 (nc u2), o1 (fa 2 u0), o1 (st 1 u0 u2)])
 (sq ([o1 (lN 1 k2), o1 (st 1 k3 u0)])
 .ret)))) [.cellN 1 k3]
noncomputable def af75 : AFunc := .mk 2 (sq ([mc (.int .i64 (.ofNat 0)) 3])
 (.seq (sq ([ml 0, ml 1, o1 (cf 96 [u1, u0]), o2 (.not u0) 2])
 (.cond k2 (.ops [ml 0, o1 (cf 73 [u0])]) .skip))
 (sq ([ml 0, o1 (cf 102 [u0]), o1 (.field 2 1 false u0), mt 0 3])
 .ret))) [.val k3]
noncomputable def af81 : AFunc := .mk 2 (.ops [ml 0, ml 0, o1 (nc u0), o1 (fa 0 u0), o1 (ld u0), ml 1, o1 (ap 1 16 u1 u0), o1 (nc u6), o1 (fa 0 u0), o1 (st 1 u0 u2)]) []
noncomputable def af82 : AFunc := .mk 2 (sq ([ml 1, o1 (cf 107 [u0]), m0, ox 0, ox 1, mt 1 4, mt 1 2])
 (sq ([o2 (.move k2) 3])
 (.cond k3 (.ops [ml 0, ml 4, o1 (.bslice [(.str 0 0), (.str 0 0)] 2 [(.mk 0 1 (.c (.str 1 42))), (.mk 1 1 u0)]), o1 (cf 81 [u2, u0])]) (sq ([ml 1, o2 (nn u0 (.c (.str 0 0))) 5])
 (.cond k5 (.ops [ml 0, ml 1, o1 (.bslice [(.str 0 0)] 1 [(.mk 0 1 u0)]), o1 (cf 81 [u2, u0])]) .skip))))) []
noncomputable def af83 : AFunc := .mk 2 (sq ([o2 (.move k1) 5, o2 (ll u0) 3, mc (iz 0) 2])
 (.block 0 (.loop (sq ([o2 (ls k2 k3) 4])
 (.seq (.cond k4 .skip (.exit 0))
 (.seq (.block 1 (sq ([ml 2, o1 (ia 1 k5 k2), o1 (lN 1 u0), o2 (.alloc [.nilp]) 8, mt 3 6, o1 (st 1 u1 u2)])
 (.seq (sq ([ml 6, o2 (gt u0 (.c (iz 0))) 7])
 (.cond k7 (.ops [ml 0, o1 (.bslice [(.str 0 0)] 1 [(.mk 0 1 (.c (.str 1 44)))]), o1 (cf 81 [u1, u0])]) .skip))
 (.ops [ml 0, o1 (lN 1 k8), o1 (cf 35 [u1, u0])]))))
 (.ops [o1 (ad k2 (.c (iz 1))), mt 0 2]))))))) []
noncomputable def af84 : AFunc := .mk 1 (sq ([mc (.str 0 0) 2])
 (.seq (sq ([ml 0, o1 (cf 108 [u0]), o1 (.not u0), m0, o3 (.move k0) 0 true, o3 (cf 109 [u0]) 1 true, o3 (.not u0) 2 true, o2 (pk u3 u0 (.c (.bool false))) 1])
 (.cond k1 (sq ([mc (.str 0 0) 2])
 .ret) .skip))
 (sq ([o1 (cf 110 []), ml 0, o1 (ia 1 u1 u0), o1 (ld u0), mt 0 2])
 .ret))) [.val k2]
noncomputable def af85 : AFunc := .mk 3 (sq ([o2 (.box k1) 3])
 (sq ([ml 0, o1 (.bslice [(.str 0 0)] 1 [(.mk 0 1 (.c (.str 1 40)))]), o1 (cf 81 [u1, u0])])
 (sq ([ml 0, o1 (lN 1 k3), o1 (cf 20 [u0, (.c (iz 0))]), o1 (cf 35 [u2, u0])])
 (sq ([ml 0, ml 2, o1 (.bslice [(.str 0 0)] 1 [(.mk 0 1 u0)]), o1 (cf 81 [u2, u0])])
 (sq ([ml 0, o1 (lN 1 k3), o1 (cf 20 [u0, (.c (iz 1))]), o1 (cf 35 [u2, u0])])
 (.ops [ml 0, o1 (.bslice [(.str 0 0)] 1 [(.mk 0 1 (.c (.str 1 41)))]), o1 (cf 81 [u1, u0])])))))) []
noncomputable def af86 : AFunc := .mk 2 (sq ([o2 (.box k1) 2])
 (sq ([o1 (fa 0 k2), o2 (ld u0) 3])
 (.block 0 (sq ([o1 (en k3 (.c (iz 15))), mt 0 4])
 (.cond k4 (.ops [ml 0, o1 (fa 3 k2), o1 (ld u0), o1 (cf 111 [u0]), o1 (.bslice [(.str 0 0)] 1 [(.mk 0 1 u0)]), o1 (cf 81 [u4, u0])]) (sq ([o1 (en k3 (.c (iz 16))), mt 0 5])
 (.cond k5 (.ops [ml 0, o1 (.bslice [(.str 0 0), (.str 0 0)] 2 [(.mk 0 1 (.c (.str 5 435728179558))), (.mk 1 1 (.c (.str 4 1702195828)))]), o1 (fa 3 k2), o1 (ld u0), o1 (.bin .and u0 (.c (iz 1))), o1 (ia 1 u3 u0), o1 (ld u0), o1 (.bslice [(.str 0 0)] 1 [(.mk 0 1 u0)]), o1 (cf 81 [u7, u0])]) (sq ([o1 (en k3 (.c (iz 17))), mt 0 6])
 (.cond k6 (.ops [ml 0, o1 (.bslice [(.str 0 0)] 1 [(.mk 0 1 (.c (.str 3 7104878)))]), o1 (cf 81 [u1, u0])]) (sq ([o1 (en k3 (.c (iz 18))), mt 0 7])
 (.cond k7 (.ops [ml 0, o1 (fa 1 k2), o1 (ld u0), o1 (.bslice [(.str 0 0)] 1 [(.mk 0 1 u0)]), o1 (cf 81 [u3, u0])]) (sq ([o1 (en k3 (.c (iz 19))), mt 0 8])
 (.cond k8 (.ops [ml 0, o1 (fa 1 k2), o1 (ld u0), o1 (.bslice [(.str 0 0), (.str 0 0), (.str 0 0), (.str 0 0)] 4 [(.mk 0 1 (.c (.str 3 7824750))), (.mk 1 1 (.c (.str 1 40))), (.mk 2 1 u0), (.mk 3 1 (.c (.str 1 41)))]), o1 (cf 81 [u3, u0])]) (sq ([o1 (en k3 (.c (iz 22))), mt 0 9])
 (.cond k9 (.ops [ml 0, o1 (.bslice [(.str 0 0), (.str 0 0), (.str 0 0)] 3 [(.mk 0 1 (.c (.str 4 1684104562))), (.mk 1 1 (.c (.str 1 40))), (.mk 2 1 (.c (.str 1 41)))]), o1 (cf 81 [u1, u0])]) .skip))))))))))))))) []
noncomputable def af89 : AFunc := .mk 2 (sq ([mc (.bool false) 2])
 (sq ([ml 0, o1 (lt u0), ml 1, o1 (lt u0), o1 (ge u2 u0), m0, o3 (.move k0) 0 true, o3 (.move k1) 1 true, o3 (lt u0) 2 true, o3 (.sliceS u2 none (some u0)) 3 true, o3 (.move k1) 4 true, o3 (en u1 u0) 5 true, o1 (pk u6 u0 (.c (.bool false))), mt 0 2])
 .ret)) [.val k2]
noncomputable def af90 : AFunc := .mk 1 (sq ([mc (.bool false) 1])
 (sq ([ml 0, o1 (cf 65 [u0]), m0, o3 (.move k0) 0 false, o3 (cf 67 [u0]) 1 false, o1 (pk u2 (.c (.bool true)) u0), mt 0 1])
 .ret)) [.val k1]
noncomputable def af91 : AFunc := .mk 1 (sq ([mc (.bool false) 1])
 (sq ([o1 (cf 115 []), ml 0, o1 (cf 114 [u1, u0]), mt 0 1])
 .ret)) [.val k1]
noncomputable def af92 : AFunc := .mk 1 (sq ([mc (.int .i64 (.ofNat 0)) 6, mc (.int .i64 (.ofNat 0)) 7])
 (sq ([ml 0, o1 (cf 116 [u0, (.c (.str 1 45))]), mt 0 1])
 (.seq (sq ([ml 1, o1 (cf 117 [u0]), o1 (.not u0), m0, o3 (.move k0) 0 false, o3 (en u0 (.c (.str 2 12333))) 1 false, o2 (pk u2 (.c (.bool true)) u0) 2])
 (.cond k2 (sq ([mc (.int .i64 (.ofNat 0)) 6, mc (.int .i64 (.ofNat 1)) 7])
 .ret) .skip))
 (sq ([ml 0, o1 (cf 118 [u0]), m0, ox 0, ox 1, mt 1 5, mt 1 3])
 (.seq (sq ([ml 3, o2 (.eq true .ifc u0 (.c .nili)) 4])
 (.cond k4 (sq ([mc (.int .i64 (.ofNat 0)) 6, mc (.int .i64 (.ofNat 2)) 7])
 .ret) .skip))
 (sq ([ml 5, mt 0 6, mc (.int .i64 (.ofNat 0)) 7])
 .ret)))))) [.val k6, .val k7]
noncomputable def af93 : AFunc := .mk 2 (sq ([mc (.int .i64 (.ofNat 0)) 7])
 (.seq (sq ([ml 0, o2 (ll u0) 3, mc (.int .i64 (.ofNat 0)) 2])
 (.block 0 (.loop (sq ([o2 (ls k2 k3) 4])
 (.seq (.cond k4 .skip (.exit 0))
 (.seq (.block 1 (sq ([ml 2, mt 0 5])
 (sq ([ml 1, ml 0, ml 5, o1 (ia 1 u1 u0), o1 (ld u0), o2 (.callV u4 [u0]) 6])
 (.cond k6 (sq ([ml 5, mt 0 7])
 .ret) .skip))))
 (.ops [o1 (ad k2 (.c (.int .i64 (.ofNat 1)))), mt 0 2])))))))
 (sq ([mc (.int .i64 (.negSucc 0)) 7])
 .ret))) [.val k7]
noncomputable def af94 : AFunc := .mk 0 (sq ([mc .nils 0])
 (sq ([o1 (.bslice [(.str 0 0), (.str 0 0), (.str 0 0), (.str 0 0), (.str 0 0), (.str 0 0), (.str 0 0), (.str 0 0), (.str 0 0), (.str 0 0), (.str 0 0), (.str 0 0), (.str 0 0), (.str 0 0), (.str 0 0), (.str 0 0), (.str 0 0), (.str 0 0), (.str 0 0), (.str 0 0), (.str 0 0), (.str 0 0), (.str 0 0), (.str 0 0), (.str 0 0), (.str 0 0), (.str 0 0), (.str 0 0)] 28 [(.mk 0 1 (.c (.str 2 15420))), (.mk 1 1 (.c (.str 2 15934))), (.mk 2 1 (.c (.str 2 15677))), (.mk 3 1 (.c (.str 2 15649))), (.mk 4 1 (.c (.str 2 15676))), (.mk 5 1 (.c (.str 2 15678))), (.mk 6 1 (.c (.str 2 9766))), (.mk 7 1 (.c (.str 2 31868))), (.mk 8 1 (.c (.str 2 15674))), (.mk 9 1 (.c (.str 1 43))), (.mk 10 1 (.c (.str 1 45))), (.mk 11 1 (.c (.str 1 42))), (.mk 12 1 (.c (.str 1 47))), (.mk 13 1 (.c (.str 1 37))), (.mk 14 1 (.c (.str 1 38))), (.mk 15 1 (.c (.str 1 124))), (.mk 16 1 (.c (.str 1 94))), (.mk 17 1 (.c (.str 1 60))), (.mk 18 1 (.c (.str 1 62))), (.mk 19 1 (.c (.str 1 33))), (.mk 20 1 (.c (.str 1 61))), (.mk 21 1 (.c (.str 1 46))), (.mk 22 1 (.c (.str 1 44))), (.mk 23 1 (.c (.str 1 59))), (.mk 24 1 (.c (.str 1 40))), (.mk 25 1 (.c (.str 1 41))), (.mk 26 1 (.c (.str 1 123))), (.mk 27 1 (.c (.str 1 125)))]), mt 0 0])
 .ret)) [.val k0]
noncomputable def af95 : AFunc := .mk 2 (sq ([mc (.bool false) 2])
 (sq ([o1 (ld k1), ml 0, o1 (cf 63 [u1, u0]), mt 0 2])
 .ret)) [.val k2]
noncomputable def af96 : AFunc := .mk 2 (sq ([mc (.bool false) 3])
 (sq ([ml 0, o1 (cf 101 [u0]), o2 (.alloc [(.int .i64 (.ofNat 0)), (.str 0 0), (.int .i64 (.ofNat 0))]) 2, o1 (st 3 u0 u1)])
 (sq ([o1 (fa 1 k2), o1 (ld u0), ml 1, o1 (en u1 u0), m0, o3 (fa 0 k2) 0 true, o3 (ld u0) 1 true, o3 (en u0 (.c (.int .i64 (.ofNat 2)))) 2 true, o3 (.move u0) 3 true, o3 (fa 0 k2) 0 false, o3 (ld u0) 1 false, o3 (en u0 (.c (.int .i64 (.ofNat 4)))) 2 false, o3 (pk u3 (.c (.bool true)) u0) 7 true, o1 (pk u8 u0 (.c (.bool false))), mt 0 3])
 .ret))) [.val k3]
noncomputable def af97 : AFunc := .mk 3 (sq ([o2 (.box k1) 3, o2 (.alloc [.nilp]) 4])
 (sq ([ml 0, o1 (fa 1 k3), o1 (ld u0), o1 (fa 2 k3), o1 (ld u0), ml 2, o1 (.build [(.int .i64 (.ofNat 0)), (.str 0 0), (.str 0 0), (.int .i64 (.ofNat 0)), (.int .i64 (.ofNat 0)), .nils] [(.mk 0 1 u5), (.mk 1 1 u3), (.mk 4 1 u1), (.mk 5 1 u0)]), o1 (.box u0), o1 (.build [.nilp] [(.mk 0 1 u0)]), o1 (st 1 k4 u0)])
 .ret)) [.cellN 1 k4]
noncomputable def af98 : AFunc := .mk 1 (sq ([o2 (.alloc [(.int .i64 (.ofNat 0)), (.str 0 0), (.int .i64 (.ofNat 0))]) 2])
 (.seq (sq ([ml 0, o1 (cf 101 [u0]), o1 (.field 0 1 false u0), o2 (nn u0 (.c (.int .i64 (.ofNat 1)))) 1])
 (.cond k1 (.ops [ml 0, o1 (cf 73 [u0])]) .skip))
 (sq ([ml 0, o1 (cf 102 [u0]), o1 (st 3 k2 u0)])
 .ret))) [.cellN 3 k2]
noncomputable def af99 : AFunc := .mk 1 (sq ([mc (.str 0 0) 3])
 (.seq (.block 0 (sq ([ml 0, o1 (cf 70 [u0, (.c (.str 1 42))]), mt 0 1])
 (.cond k1 (sq ([ml 0, o1 (cf 98 [u0]), o1 (.field 1 1 false u0), o1 (cf 119 [u0]), mt 0 3])
 .ret) (sq ([ml 0, o1 (cf 96 [u0, (.c (.str 3 7630441))]), m0, o3 (.move k0) 0 false, o3 (cf 96 [u0, (.c (.str 4 1819242338))]) 1 false, o1 (pk u2 (.c (.bool true)) u0), mt 0 2])
 (.cond k2 (sq ([ml 0, o1 (cf 102 [u0]), o1 (.field 1 1 false u0), mt 0 3])
 .ret) .skip)))))
 (sq ([ml 0, o1 (cf 73 [u0])])
 (sq ([mc (.str 0 0) 3])
 .ret)))) [.val k3]
noncomputable def af100 : AFunc := .mk 1 (sq ([o2 (.box k0) 1, o2 (.alloc [.nilp]) 3])
 (.seq (sq ([o1 (ld k1), o1 (cf 96 [u0, (.c (.str 1 123))]), o2 (.not u0) 2])
 (.cond k2 (.ops [o1 (ld k1), o1 (cf 73 [u0])]) .skip))
 (sq ([o1 (ld k1), o1 (.mkFn 121 [] [k1]), o1 (cf 120 [u1, u0]), o1 (st 1 k3 u0)])
 .ret))) [.cellN 1 k3]
noncomputable def af101 : AFunc := .mk 1 (sq ([o2 (.alloc [(.int .i64 (.ofNat 0)), (.str 0 0), (.int .i64 (.ofNat 0))]) 2])
 (.seq (sq ([ml 0, o1 (nc u0), o1 (fa 1 u0), o1 (ld u0), ml 0, o1 (nc u0), o1 (fa 0 u0), o1 (ld u0), o1 (ll u0), o2 (ge u5 u0) 1])
 (.cond k1 (sq ([ml 0, o1 (nc u0), o1 (fa 2 u0), o1 (ld u0), o1 (.build [(.int .i64 (.ofNat 0)), (.str 0 0), (.int .i64 (.ofNat 0))] [(.mk 2 1 u0)]), o1 (st 3 k2 u0)])
 .ret) .skip))
 (sq ([ml 0, o1 (nc u0), o1 (fa 0 u0), o1 (ld u0), ml 0, o1 (nc u0), o1 (fa 1 u0), o1 (ld u0), o1 (ia 3 u4 u0), o1 (lN 3 u0), o1 (st 3 k2 u0)])
 .ret))) [.cellN 3 k2]
noncomputable def af102 : AFunc := .mk 1 (sq ([o2 (.alloc [(.int .i64 (.ofNat 0)), (.str 0 0), (.int .i64 (.ofNat 0))]) 2])
 (sq ([ml 0, o1 (cf 101 [u0]), o2 (.alloc [(.int .i64 (.ofNat 0)), (.str 0 0), (.int .i64 (.ofNat 0))]) 1, o1 (st 3 u0 u1)])
 (sq ([ml 0, o1 (nc u0), o1 (fa 1 u0), o1 (ld u0), o1 (ad u0 (.c (.int .i64 (.ofNat 1)))), o1 (nc u4), o1 (fa 1 u0), o1 (st 1 u0 u2)])
 (sq ([o1 (lN 3 k1), o1 (st 3 k2 u0)])
 .ret)))) [.cellN 3 k2]
noncomputable def af107 : AFunc := .mk 1 (sq ([mc (.str 0 0) 4, mc (.bool false) 5])
 (sq ([ml 0, o1 (cf 125 [u0, (.c (.str 1 42))]), m0, ox 0, ox 1, mt 1 2, mt 1 1])
 (.seq (sq ([ml 1, o1 (.not u0), m0, o3 (.move k2) 0 false, o3 (cf 126 [u0]) 1 false, o3 (.not u0) 2 false, o2 (pk u3 (.c (.bool true)) u0) 3])
 (.cond k3 (sq ([mc (.str 0 0) 4, mc (.bool false) 5])
 .ret) .skip))
 (sq ([ml 2, mt 0 4, mc (.bool true) 5])
 .ret)))) [.val k4, .val k5]
noncomputable def af108 : AFunc := .mk 1 (sq ([mc (.bool false) 1])
 (sq ([ml 0, o1 (ge u0 (.c (iz 1))), m0, o3 (.move k0) 0 true, o3 (le u0 (.c (iz 16))) 1 true, o1 (pk u2 u0 (.c (.bool false))), mt 0 1])
 .ret)) [.val k1]
noncomputable def af109 : AFunc := .mk 1 (sq ([mc (.bool false) 1])
 (sq ([ml 0, o1 (en u0 (.c (iz 17))), m0, o3 (.move k0) 0 false, o3 (en u0 (.c (iz 18))) 1 false, o1 (pk u2 (.c (.bool true)) u0), mt 0 1])
 .ret)) [.val k1]
noncomputable def af110 : AFunc := .mk 0 (sq ([mc .nils 0])
 (sq ([o1 (.bslice [(.str 0 0), (.str 0 0), (.str 0 0), (.str 0 0), (.str 0 0), (.str 0 0), (.str 0 0), (.str 0 0), (.str 0 0), (.str 0 0), (.str 0 0), (.str 0 0), (.str 0 0), (.str 0 0), (.str 0 0), (.str 0 0), (.str 0 0), (.str 0 0), (.str 0 0)] 19 [(.mk 0 1 (.c (.str 0 0))), (.mk 1 1 (.c (.str 1 43))), (.mk 2 1 (.c (.str 1 45))), (.mk 3 1 (.c (.str 1 42))), (.mk 4 1 (.c (.str 1 47))), (.mk 5 1 (.c (.str 1 37))), (.mk 6 1 (.c (.str 1 38))), (.mk 7 1 (.c (.str 1 124))), (.mk 8 1 (.c (.str 1 94))), (.mk 9 1 (.c (.str 2 15420))), (.mk 10 1 (.c (.str 2 15934))), (.mk 11 1 (.c (.str 2 15677))), (.mk 12 1 (.c (.str 2 15649))), (.mk 13 1 (.c (.str 1 60))), (.mk 14 1 (.c (.str 2 15676))), (.mk 15 1 (.c (.str 1 62))), (.mk 16 1 (.c (.str 2 15678))), (.mk 17 1 (.c (.str 1 45))), (.mk 18 1 (.c (.str 1 33)))]), mt 0 0])
 .ret)) [.val k0]
noncomputable def af111 : AFunc := .mk 1 (sq ([mc (.str 0 0) 1])
 (sq ([ml 0, o1 (cf 127 [u0]), mt 0 1])
 .ret)) [.val k1]
noncomputable def af114 : AFunc := .mk 2 (sq ([mc (.bool false) 2])
 (sq ([ml 0, ml 1, o1 (cf 128 [u1, u0]), o1 (ge u0 (.c (.int .i64 (.ofNat 0)))), mt 0 2])
 .ret)) [.val k2]
noncomputable def af115 : AFunc := .mk 0 (sq ([mc .nils 0])
 (sq ([o1 (.bslice [(.str 0 0), (.str 0 0), (.str 0 0), (.str 0 0), (.str 0 0), (.str 0 0), (.str 0 0), (.str 0 0), (.str 0 0), (.str 0 0), (.str 0 0), (.str 0 0), (.str 0 0), (.str 0 0), (.str 0 0), (.str 0 0)] 16 [(.mk 0 1 (.c (.str 4 1701869940))), (.mk 1 1 (.c (.str 6 127970521019507))), (.mk 2 1 (.c (.str 4 1668183398))), (.mk 3 1 (.c (.str 3 7496054))), (.mk 4 1 (.c (.str 2 26217))), (.mk 5 1 (.c (.str 4 1702063205))), (.mk 6 1 (.c (.str 3 7499622))), (.mk 7 1 (.c (.str 6 121437875889522))), (.mk 8 1 (.c (.str 5 500068610672))), (.mk 9 1 (.c (.str 3 7824750))), (.mk 10 1 (.c (.str 3 7104878))), (.mk 11 1 (.c (.str 4 1702195828))), (.mk 12 1 (.c (.str 5 435728179558))), (.mk 13 1 (.c (.str 3 7630441))), (.mk 14 1 (.c (.str 4 1819242338))), (.mk 15 1 (.c (.str 4 1684104562)))]), mt 0 0])
 .ret)) [.val k0]
noncomputable def af116 : AFunc := .mk 2 (sq ([mc (.str 0 0) 2])
 (sq ([ml 0, ml 1, o1 (cf 129 [u1, u0]), mt 0 2])
 .ret)) [.val k2]
noncomputable def af117 : AFunc := .mk 1 (sq ([mc (.bool false) 1])
 (sq ([ml 0, o1 (nn u0 (.c (.str 0 0))), m0, o3 (.move k0) 0 true, o3 (cf 130 [u0, (.c (.str 10 270211885617516653982000))]) 1 true, o3 (en u0 (.c (.str 0 0))) 2 true, o1 (pk u3 u0 (.c (.bool false))), m0, o3 (.move k0) 0 true, o3 (.idxS u0 (.c (.int .i64 (.ofNat 0)))) 1 true, o3 (nn u0 (.c (.int .u8 (.ofNat 48)))) 2 true, o3 (.move u0) 3 true, o3 (.move k0) 0 false, o3 (en u0 (.c (.str 1 48))) 1 false, o3 (pk u2 (.c (.bool true)) u0) 6 true, o1 (pk u7 u0 (.c (.bool false))), mt 0 1])
 .ret)) [.val k1]
noncomputable def af119 : AFunc := .mk 1 (sq ([mc (.str 0 0) 1])
 (sq ([ml 0, o1 (ad (.c (.str 1 42)) u0), mt 0 1])
 .ret)) [.val k1]
noncomputable def af120 : AFunc := .mk 2 (sq ([o2 (.alloc [.nilp]) 4])
 (sq ([ml 0, o1 (nc u0), o1 (fa 3 u0), o1 (ld u0), o1 (ad u0 (.c (.int .i64 (.ofNat 1)))), o1 (nc u4), o1 (fa 3 u0), o1 (st 1 u0 u2)])
 (.seq (sq ([ml 0, o1 (nc u0), o1 (fa 3 u0), o1 (ld u0), o2 (gt u0 (.c (.int .i64 (.ofNat 40)))) 2])
 (.cond k2 (.ops [ml 0, o1 (cf 101 [u0]), o1 (.field 2 1 false u0), o1 (.build [(.int .i64 (.ofNat 0)), (.int .i64 (.ofNat 0))] [(.mk 0 1 u0), (.mk 1 1 (.c (.int .i64 (.ofNat 3))))]), o1 (.mkIfc 54 u0), o1 (.panic u0)]) .skip))
 (sq ([ml 1, o1 (.callV u0 []), o2 (.alloc [.nilp]) 3, o1 (st 1 u0 u1)])
 (sq ([ml 0, o1 (nc u0), o1 (fa 3 u0), o1 (ld u0), o1 (sb u0 (.c (.int .i64 (.ofNat 1)))), o1 (nc u4), o1 (fa 3 u0), o1 (st 1 u0 u2)])
 (sq ([o1 (lN 1 k3), o1 (st 1 k4 u0)])
 .ret)))))) [.cellN 1 k4]
noncomputable def af121 : AFunc := .mk 1 (sq ([o2 (.alloc [.nilp]) 3])
 (sq ([o1 (ld k0), o1 (cf 102 [u0]), o1 (.field 2 1 false u0), o1 (cf 40 [(.c (.int .i64 (.ofNat 6))), u0, (.c .nils)]), o2 (.alloc [.nilp]) 2, o1 (st 1 u0 u1)])
 (.seq (.block 0 (.loop (.seq (sq ([o1 (ld k0), o1 (cf 70 [u0, (.c (.str 1 125))]), o2 (.not u0) 1])
 (.cond k1 .skip (.exit 0)))
 (.block 1 (.ops [o1 (fa 0 k2), o1 (ld u0), o1 (fa 0 k2), o1 (ld u0), o1 (nc u0), o1 (fa 5 u0), o1 (ld u0), o1 (ld k0), .mk (cf 122 [u0]) none none [.mk (ld u2) 1 none, .mk (ld u5) 4 none, .mk (ld u7) 6 none], o1 (.bslice [.nilp] 1 [(.mk 0 1 u0)]), .mk (ap 1 8 u3 u0) none none [.mk (ld u9) 8 none], o1 (nc u9), o1 (fa 5 u0), o1 (st 1 u0 u2)])))))
 (sq ([o1 (lN 1 k2), o1 (st 1 k3 u0)])
 .ret)))) [.cellN 1 k3]
noncomputable def af122 : AFunc := .mk 1 (sq ([o2 (.alloc [.nilp]) 2])
 (.seq (.block 0 (sq ([ml 0, o1 (cf 96 [u0, (.c (.str 2 26217))]), mt 0 1])
 (.cond k1 (sq ([ml 0, o1 (cf 133 [u0]), o1 (st 1 k2 u0)])
 .ret) (sq ([ml 0, o1 (cf 96 [u0, (.c (.str 3 7499622))]), mt 0 3])
 (.cond k3 (sq ([ml 0, o1 (cf 102 [u0]), o1 (.field 2 1 false u0), ml 0, o1 (cf 134 [u0, (.c (.int .i64 (.ofNat 1)))]), o1 (.bslice [.nilp] 1 [(.mk 0 1 u0)]), o1 (cf 40 [(.c (.int .i64 (.ofNat 11))), u3, u0]), o2 (.alloc [.nilp]) 4, o1 (st 1 u0 u1)])
 (sq ([o1 (fa 0 k4), o1 (ld u0), o1 (fa 0 k4), o1 (ld u0), o1 (nc u0), o1 (fa 5 u0), o1 (ld u0), ml 0, .mk (cf 100 [u0]) none none [.mk (ld u2) 1 none, .mk (ld u5) 4 none, .mk (ld u7) 6 none], o1 (.bslice [.nilp] 1 [(.mk 0 1 u0)]), .mk (ap 1 8 u3 u0) none none [.mk (ld u9) 8 none], o1 (nc u9), o1 (fa 5 u0), o1 (st 1 u0 u2)])
 (sq ([o1 (lN 1 k4), o1 (st 1 k2 u0)])
 .ret))) .skip)))))
 (sq ([ml 0, o1 (cf 135 [u0]), o2 (.alloc [.nilp]) 5, o1 (st 1 u0 u1)])
 (sq ([ml 0, o1 (cf 75 [u0, (.c (.str 1 59))])])
 (sq ([o1 (lN 1 k5), o1 (st 1 k2 u0)])
 .ret))))) [.cellN 1 k2]
noncomputable def af125 : AFunc := .mk 2 (sq ([mc (.str 0 0) 2, mc (.bool false) 3])
 (sq ([ml 0, ml 1, o1 (cf 137 [u1, u0]), ox 0, ox 1, mt 1 2, mt 1 3])
 .ret)) [.val k2, .val k3]
noncomputable def af126 : AFunc := .mk 1 (sq ([mc (.bool false) 1])
 (sq ([ml 0, o1 (cf 138 [u0]), m0, o3 (.move k0) 0 true, o3 (lt u0) 1 true, o3 (le u0 (.c (iz 12))) 2 true, o1 (pk u3 u0 (.c (.bool false))), m0, o3 (.move k0) 0 true, o3 (cf 91 [u0]) 1 true, o3 (.not u0) 2 true, o1 (pk u3 u0 (.c (.bool false))), mt 0 1])
 .ret)) [.val k1]
noncomputable def af128 : AFunc := .mk 2 (sq ([mc (.int .i64 (.ofNat 0)) 7])
 (.seq (sq ([ml 0, o2 (ll u0) 3, mc (.int .i64 (.ofNat 0)) 2])
 (.block 0 (.loop (sq ([o2 (ls k2 k3) 4])
 (.seq (.cond k4 .skip (.exit 0))
 (.seq (.block 1 (sq ([ml 2, mt 0 5])
 (sq ([ml 1, ml 0, ml 5, o1 (ia 1 u1 u0), o1 (ld u0), o2 (en u4 u0) 6])
 (.cond k6 (sq ([ml 5, mt 0 7])
 .ret) .skip))))
 (.ops [o1 (ad k2 (.c (.int .i64 (.ofNat 1)))), mt 0 2])))))))
 (sq ([mc (.int .i64 (.negSucc 0)) 7])
 .ret))) [.val k7]
noncomputable def af129 : AFunc := .mk 2 (sq ([mc (.str 0 0) 3])
 (.seq (sq ([ml 0, ml 1, o2 (cf 89 [u1, u0]) 2])
 (.cond k2 (sq ([ml 0, ml 1, o1 (lt u0), o1 (.sliceS u2 (some u0) none), mt 0 3])
 .ret) .skip))
 (sq ([ml 0, mt 0 3])
 .ret))) [.val k3]
noncomputable def af133 : AFunc := .mk 1 (sq ([o2 (.alloc [.nilp]) 6])
 (sq ([ml 0, o1 (cf 75 [u0, (.c (.str 2 26217))]), mt 0 1])
 (sq ([ml 1, ml 0, o1 (cf 134 [u0, (.c (.int .i64 (.ofNat 1)))]), o1 (.bslice [.nilp] 1 [(.mk 0 1 u0)]), o1 (cf 40 [(.c (.int .i64 (.ofNat 10))), u3, u0]), o2 (.alloc [.nilp]) 2, o1 (st 1 u0 u1)])
 (sq ([o1 (fa 0 k2), o1 (ld u0), o1 (fa 0 k2), o1 (ld u0), o1 (nc u0), o1 (fa 5 u0), o1 (ld u0), ml 0, .mk (cf 100 [u0]) none none [.mk (ld u2) 1 none, .mk (ld u5) 4 none, .mk (ld u7) 6 none], o1 (.bslice [.nilp] 1 [(.mk 0 1 u0)]), .mk (ap 1 8 u3 u0) none none [.mk (ld u9) 8 none], o1 (nc u9), o1 (fa 5 u0), o1 (st 1 u0 u2)])
 (.seq (sq ([ml 0, o2 (cf 70 [u0, (.c (.str 4 1702063205))]) 3])
 (.cond k3 (sq ([ml 0, o1 (.mkFn 100 [u0] []), mt 0 5])
 (.seq (sq ([ml 0, o2 (cf 96 [u0, (.c (.str 2 26217))]) 4])
 (.cond k4 (.ops [ml 0, o1 (.mkFn 133 [u0] []), mt 0 5]) .skip))
 (.ops [o1 (fa 0 k2), o1 (ld u0), o1 (fa 0 k2), o1 (ld u0), o1 (nc u0), o1 (fa 5 u0), o1 (ld u0), ml 5, .mk (.callV u0 []) none none [.mk (ld u2) 1 none, .mk (ld u5) 4 none, .mk (ld u7) 6 none], o1 (.bslice [.nilp] 1 [(.mk 0 1 u0)]), .mk (ap 1 8 u3 u0) none none [.mk (ld u9) 8 none], o1 (nc u9), o1 (fa 5 u0), o1 (st 1 u0 u2)]))) .skip))
 (sq ([o1 (lN 1 k2), o1 (st 1 k6 u0)])
 .ret)))))) [.cellN 1 k6]
noncomputable def af134 : AFunc := .mk 2 (sq ([o2 (.alloc [.nilp]) 5])
 (sq ([ml 0, o1 (cf 152 [u0]), o2 (.alloc [.nilp]) 4, o1 (st 1 u0 u1)])
 (.block 0 (.loop (.block 1 (sq ([ml 0, o1 (cf 153 [u0]), m0, ox 0, ox 1, mt 1 2, mt 1 8])
 (.seq (sq ([ml 2, o1 (en u0 (.c (.int .i64 (.ofNat 0)))), m0, o3 (.move k2) 0 false, o3 (.move k1) 1 false, o3 (ls u1 u0) 2 false, o2 (pk u3 (.c (.bool true)) u0) 3])
 (.cond k3 (sq ([o1 (lN 1 k4), o1 (st 1 k5 u0)])
 .ret) .skip))
 (sq ([ml 0, o1 (cf 102 [u0]), o1 (.field 2 1 false u0), mt 0 6])
 (sq ([o1 (.bslice [(.int .i64 (.ofNat 0)), (.int .i64 (.ofNat 0)), (.int .i64 (.ofNat 0)), (.int .i64 (.ofNat 0)), (.int .i64 (.ofNat 0)), (.int .i64 (.ofNat 0))] 6 [(.mk 0 1 (.c (.int .i64 (.ofNat 0)))), (.mk 1 1 (.c (.int .i64 (.ofNat 26)))), (.mk 2 1 (.c (.int .i64 (.ofNat 25)))), (.mk 3 1 (.c (.int .i64 (.ofNat 24)))), (.mk 4 1 (.c (.int .i64 (.ofNat 24)))), (.mk 5 1 (.c (.int .i64 (.ofNat 24))))]), ml 2, o1 (ia 1 u1 u0), o1 (ld u0), ml 6, o1 (lN 1 k4), ml 0, ml 2, o1 (ad u0 (.c (.int .i64 (.ofNat 1)))), o2 (.alloc [.nilp]) 7, .mk (cf 134 [u3, u1]) none none [.mk (lN 1 k4) 4 none, .mk (ld u7) 6 none], o1 (.bslice [.nilp, .nilp] 2 [(.mk 0 1 u5), (.mk 1 1 u0)]), o1 (cf 40 [u8, u7, u0]), o1 (st 1 u3 u0)])
 (sq ([o1 (fa 0 k7), o1 (ld u0), ml 8, o1 (nc u1), o1 (fa 3 u0), o1 (st 1 u0 u2)])
 (.ops [o1 (lN 1 k7), o1 (st 1 k4 u0)]))))))))))) [.cellN 1 k5]
noncomputable def af135 : AFunc := .mk 1 (sq ([o2 (.alloc [.nilp]) 3])
 (.seq (.block 0 (sq ([ml 0, o1 (cf 96 [u0, (.c (.str 5 500068610672))]), mt 0 1])
 (.cond k1 (sq ([ml 0, o1 (cf 102 [u0]), o1 (.field 2 1 false u0), mt 0 2])
 (sq ([ml 2, ml 0, o1 (cf 154 [u0]), o1 (.bslice [.nilp] 1 [(.mk 0 1 u0)]), o1 (cf 40 [(.c (.int .i64 (.ofNat 12))), u3, u0]), o1 (st 1 k3 u0)])
 .ret)) (sq ([ml 0, o1 (cf 96 [u0, (.c (.str 6 121437875889522))]), mt 0 4])
 (.cond k4 (sq ([ml 0, o1 (cf 102 [u0]), o1 (.field 2 1 false u0), o1 (cf 40 [(.c (.int .i64 (.ofNat 13))), u0, (.c .nils)]), o2 (.alloc [.nilp]) 6, o1 (st 1 u0 u1)])
 (.seq (sq ([ml 0, o1 (cf 96 [u0, (.c (.str 1 59))]), o2 (.not u0) 5])
 (.cond k5 (.ops [o1 (fa 0 k6), o1 (ld u0), o1 (fa 0 k6), o1 (ld u0), o1 (nc u0), o1 (fa 5 u0), o1 (ld u0), ml 0, .mk (cf 134 [u0, (.c (.int .i64 (.ofNat 1)))]) none none [.mk (ld u2) 1 none, .mk (ld u5) 4 none, .mk (ld u7) 6 none], o1 (.bslice [.nilp] 1 [(.mk 0 1 u0)]), .mk (ap 1 8 u3 u0) none none [.mk (ld u9) 8 none], o1 (nc u9), o1 (fa 5 u0), o1 (st 1 u0 u2)]) .skip))
 (sq ([o1 (lN 1 k6), o1 (st 1 k3 u0)])
 .ret))) (sq ([ml 0, o1 (cf 101 [u0]), o1 (.field 0 1 false u0), o1 (en u0 (.c (.int .i64 (.ofNat 1)))), m0, o3 (.move k0) 0 true, o3 (cf 155 [u0]) 1 true, o3 (.field 0 1 false u0) 2 true, o3 (en u0 (.c (.int .i64 (.ofNat 4)))) 3 true, o1 (pk u4 u0 (.c (.bool false))), m0, o3 (.move k0) 0 true, o3 (cf 155 [u0]) 1 true, o3 (.field 1 1 false u0) 2 true, o3 (en u0 (.c (.str 2 15674))) 3 true, o1 (pk u4 u0 (.c (.bool false))), mt 0 7])
 (.cond k7 (sq ([ml 0, o1 (cf 102 [u0]), o2 (.alloc [(.int .i64 (.ofNat 0)), (.str 0 0), (.int .i64 (.ofNat 0))]) 8, o1 (st 3 u0 u1)])
 (sq ([ml 0, o1 (cf 102 [u0])])
 (sq ([o1 (lN 3 k8), ml 0, .mk (cf 134 [u0, (.c (.int .i64 (.ofNat 1)))]) none none [.mk (lN 3 k8) 1 none], o1 (.bslice [.nilp] 1 [(.mk 0 1 u0)]), o1 (cf 97 [(.c (.int .i64 (.ofNat 7))), u3, u0]), o1 (st 1 k3 u0)])
 .ret))) .skip)))))))
 (sq ([ml 0, o1 (cf 156 [u0]), o1 (st 1 k3 u0)])
 .ret))) [.cellN 1 k3]
noncomputable def af137 : AFunc := .mk 2 (sq ([mc (.str 0 0) 3, mc (.bool false) 4])
 (.seq (sq ([ml 0, ml 1, o1 (cf 89 [u1, u0]), o2 (.not u0) 2])
 (.cond k2 (sq ([ml 0, mt 0 3, mc (.bool false) 4])
 .ret) .skip))
 (sq ([ml 0, ml 1, o1 (lt u0), o1 (.sliceS u2 (some u0) none), mt 0 3, mc (.bool true) 4])
 .ret))) [.val k3, .val k4]
noncomputable def af138 : AFunc := .mk 1 (sq ([mc (.bool false) 1])
 (sq ([ml 0, o1 (nn u0 (.c (.str 0 0))), m0, o3 (.move k0) 0 true, o3 (.idxS u0 (.c (iz 0))) 1 true, o3 (cf 65 [u0]) 2 true, o1 (pk u3 u0 (.c (.bool false))), m0, o3 (.move k0) 0 true, o3 (cf 61 [u0, (.c (.fn 157 [] []))]) 1 true, o3 (.move k0) 2 true, o3 (lt u0) 3 true, o3 (en u2 u0) 4 true, o1 (pk u5 u0 (.c (.bool false))), mt 0 1])
 .ret)) [.val k1]
noncomputable def af152 : AFunc := .mk 1 (sq ([o2 (.box k0) 1, o2 (.alloc [.nilp]) 3])
 (.seq (sq ([o1 (ld k1), o1 (cf 96 [u0, (.c (.str 1 45))]), o1 (.not u0), m0, o3 (ld k1) 0 true, o3 (cf 96 [u0, (.c (.str 1 33))]) 1 true, o3 (.not u0) 2 true, o2 (pk u3 u0 (.c (.bool false))) 2])
 (.cond k2 (sq ([o1 (ld k1), o1 (cf 166 [u0]), o1 (st 1 k3 u0)])
 .ret) .skip))
 (sq ([o1 (ld k1), o1 (.mkFn 167 [] [k1]), o1 (cf 120 [u1, u0]), o1 (st 1 k3 u0)])
 .ret))) [.cellN 1 k3]
noncomputable def af153 : AFunc := .mk 1 (sq ([mc (.int .i64 (.ofNat 0)) 6, mc (.int .i64 (.ofNat 0)) 7])
 (sq ([ml 0, o1 (cf 101 [u0]), o2 (.alloc [(.int .i64 (.ofNat 0)), (.str 0 0), (.int .i64 (.ofNat 0))]) 1, o1 (st 3 u0 u1)])
 (.seq (.block 0 (sq ([o1 (fa 0 k1), o1 (ld u0), o1 (nn u0 (.c (.int .i64 (.ofNat 4)))), mt 0 2])
 (.cond k2 (sq ([mc (.int .i64 (.ofNat 0)) 6, mc (.int .i64 (.ofNat 0)) 7])
 .ret) (sq ([o1 (fa 1 k1), o1 (ld u0), o1 (en u0 (.c (.str 2 31868))), mt 0 3])
 (.cond k3 (sq ([mc (.int .i64 (.ofNat 1)) 6, mc (.int .i64 (.ofNat 0)) 7])
 .ret) (sq ([o1 (fa 1 k1), o1 (ld u0), o1 (en u0 (.c (.str 2 9766))), mt 0 4])
 (.cond k4 (sq ([mc (.int .i64 (.ofNat 2)) 6, mc (.int .i64 (.ofNat 0)) 7])
 .ret) .skip)))))))
 (sq ([o1 (fa 1 k1), o1 (ld u0), o1 (cf 168 [u0, (.c (.int .i64 (.ofNat 2)))]), m0, ox 0, ox 1, mt 1 5, o1 (.move u1)])
 (sq ([ml 5, o1 (cf 169 [u0]), ml 5, mt 1 6, mt 1 7])
 .ret))))) [.val k6, .val k7]
noncomputable def af154 : AFunc := .mk 1 (sq ([o2 (.box k0) 1, o2 (.alloc [.nilp]) 3])
 (.seq (sq ([o1 (ld k1), o1 (cf 96 [u0, (.c (.str 1 40))]), o2 (.not u0) 2])
 (.cond k2 (.ops [o1 (ld k1), o1 (cf 73 [u0])]) .skip))
 (sq ([o1 (ld k1), o1 (.mkFn 170 [] [k1]), o1 (cf 120 [u1, u0]), o1 (st 1 k3 u0)])
 .ret))) [.cellN 1 k3]
noncomputable def af155 : AFunc := .mk 1 (sq ([o2 (.alloc [(.int .i64 (.ofNat 0)), (.str 0 0), (.int .i64 (.ofNat 0))]) 2])
 (.seq (sq ([ml 0, o1 (nc u0), o1 (fa 1 u0), o1 (ld u0), o1 (ad u0 (.c (.int .i64 (.ofNat 1)))), ml 0, o1 (nc u0), o1 (fa 0 u0), o1 (ld u0), o1 (ll u0), o2 (ge u5 u0) 1])
 (.cond k1 (sq ([ml 0, o1 (nc u0), o1 (fa 2 u0), o1 (ld u0), o1 (.build [(.int .i64 (.ofNat 0)), (.str 0 0), (.int .i64 (.ofNat 0))] [(.mk 2 1 u0)]), o1 (st 3 k2 u0)])
 .ret) .skip))
 (sq ([ml 0, o1 (nc u0), o1 (fa 0 u0), o1 (ld u0), ml 0, o1 (nc u0), o1 (fa 1 u0), o1 (ld u0), o1 (ad u0 (.c (.int .i64 (.ofNat 1)))), o1 (ia 3 u5 u0), o1 (lN 3 u0), o1 (st 3 k2 u0)])
 .ret))) [.cellN 3 k2]
noncomputable def af156 : AFunc := .mk 1 (sq ([o2 (.alloc [.nilp]) 5])
 (sq ([ml 0, o1 (cf 96 [u0, (.c (.str 1 40))]), mt 0 1])
 (sq ([ml 0, o1 (cf 166 [u0]), o2 (.alloc [.nilp]) 3, o1 (st 1 u0 u1)])
 (.seq (sq ([ml 1, m0, o3 (.move k0) 0 true, o3 (nc u0) 1 true, o3 (fa 0 u0) 2 true, o3 (ld u0) 3 true, o3 (.move k0) 4 true, o3 (nc u0) 5 true, o3 (fa 1 u0) 6 true, o3 (ld u0) 7 true, o3 (sb u0 (.c (.int .i64 (.ofNat 1)))) 8 true, o3 (ia 3 u5 u0) 9 true, o3 (fa 1 u0) 10 true, o3 (ld u0) 11 true, o3 (en u0 (.c (.str 1 41))) 12 true, o2 (pk u13 u0 (.c (.bool false))) 2])
 (.cond k2 (.ops [ml 0, o1 (cf 73 [u0])]) .skip))
 (.seq (.block 0 (sq ([o1 (lN 1 k3), o1 (cf 13 [u0]), o1 (en u0 (.c (.int .i64 (.ofNat 21)))), m0, o3 (.move k0) 0 true, o3 (cf 96 [u0, (.c (.str 1 61))]) 1 true, o3 (.not u0) 2 true, o1 (pk u3 u0 (.c (.bool false))), mt 0 4])
 (.cond k4 (sq ([o1 (lN 1 k3), o1 (lN 1 k3), o1 (.bslice [.nilp] 1 [(.mk 0 1 u0)]), .mk (cf 24 [u2]) none none [.mk (lN 1 k3) 1 none], o1 (cf 40 [(.c (.int .i64 (.ofNat 14))), u0, u1]), o1 (st 1 k5 u0)])
 .ret) (sq ([o1 (lN 1 k3), o1 (cf 13 [u0]), o1 (en u0 (.c (.int .i64 (.ofNat 18)))), mt 0 6])
 (.cond k6 (sq ([ml 0, o1 (cf 75 [u0, (.c (.str 1 61))])])
 (sq ([o1 (lN 1 k3), o1 (lN 1 k3), ml 0, .mk (cf 33 [u2]) none none [.mk (lN 1 k3) 1 none], o1 (cf 24 [u2]), o1 (cf 134 [u2, (.c (.int .i64 (.ofNat 1)))]), o1 (.bslice [.nilp] 1 [(.mk 0 1 u0)]), o1 (.build [(.int .i64 (.ofNat 0)), (.str 0 0), (.str 0 0), (.int .i64 (.ofNat 0)), (.int .i64 (.ofNat 0)), .nils] [(.mk 0 1 (.c (.int .i64 (.ofNat 8)))), (.mk 1 1 u3), (.mk 4 1 u2), (.mk 5 1 u0)]), o1 (.box u0), o1 (.build [.nilp] [(.mk 0 1 u0)]), o1 (st 1 k5 u0)])
 .ret)) (sq ([o1 (lN 1 k3), o1 (cf 13 [u0]), o1 (en u0 (.c (.int .i64 (.ofNat 20)))), mt 0 7])
 (.cond k7 (sq ([ml 0, o1 (cf 75 [u0, (.c (.str 1 61))])])
 (sq ([o1 (lN 1 k3), o1 (lN 1 k3), o1 (lN 1 k3), ml 0, .mk (cf 33 [u3]) none none [.mk (lN 1 k3) 1 none, .mk (lN 1 k3) 2 none], .mk (cf 24 [u3]) none none [.mk (lN 1 k3) 2 none], o1 (cf 20 [u3, (.c (.int .i64 (.ofNat 0)))]), o1 (cf 134 [u3, (.c (.int .i64 (.ofNat 1)))]), o1 (.bslice [.nilp, .nilp] 2 [(.mk 0 1 u1), (.mk 1 1 u0)]), o1 (.build [(.int .i64 (.ofNat 0)), (.str 0 0), (.str 0 0), (.int .i64 (.ofNat 0)), (.int .i64 (.ofNat 0)), .nils] [(.mk 0 1 (.c (.int .i64 (.ofNat 9)))), (.mk 1 1 u4), (.mk 4 1 u3), (.mk 5 1 u0)]), o1 (.box u0), o1 (.build [.nilp] [(.mk 0 1 u0)]), o1 (st 1 k5 u0)])
 .ret)) .skip)))))))
 (sq ([ml 0, o1 (cf 73 [u0])])
 (sq ([o1 (.build [.nilp] []), o1 (st 1 k5 u0)])
 .ret))))))) [.cellN 1 k5]
noncomputable def af157 : AFunc := .mk 1 (sq ([mc (.bool false) 1])
 (sq ([ml 0, o1 (cf 65 [u0]), m0, o3 (.move k0) 0 false, o3 (cf 67 [u0]) 1 false, o1 (pk u2 (.c (.bool true)) u0), mt 0 1])
 .ret)) [.val k1]
noncomputable def af166 : AFunc := .mk 1 (sq ([o2 (.alloc [.nilp]) 3])
 (sq ([ml 0, o1 (cf 180 [u0]), o2 (.alloc [.nilp]) 2, o1 (st 1 u0 u1)])
 (.seq (.block 0 (.loop (.seq (sq ([ml 0, o2 (cf 70 [u0, (.c (.str 1 46))]) 1])
 (.cond k1 .skip (.exit 0)))
 (.block 1 (.ops [ml 0, o1 (lN 1 k2), o1 (.bslice [.nilp] 1 [(.mk 0 1 u0)]), .mk (cf 98 [u2]) none none [.mk (lN 1 k2) 1 none], o1 (cf 97 [(.c (.int .i64 (.ofNat 20))), u0, u1]), o1 (st 1 k2 u0)])))))
 (sq ([o1 (lN 1 k2), o1 (st 1 k3 u0)])
 .ret)))) [.cellN 1 k3]
noncomputable def af167 : AFunc := .mk 1 (sq ([o2 (.alloc [.nilp]) 3])
 (sq ([o1 (ld k0), o1 (cf 102 [u0]), o2 (.alloc [(.int .i64 (.ofNat 0)), (.str 0 0), (.int .i64 (.ofNat 0))]) 1, o1 (st 3 u0 u1)])
 (sq ([o1 (fa 2 k1), o1 (ld u0), o1 (ld k0), o2 (.alloc [.nilp]) 2, .mk (cf 152 [u1]) none none [.mk (ld u3) 2 none], o1 (.bslice [.nilp] 1 [(.mk 0 1 u0)]), o1 (cf 40 [(.c (.int .i64 (.ofNat 23))), u4, u0]), o1 (st 1 u3 u0)])
 (sq ([o1 (fa 0 k2), o1 (ld u0), o1 (fa 1 k1), o1 (ld u0), .mk (cf 168 [u0, (.c (.int .i64 (.ofNat 1)))]) none none [.mk (ld u3) 2 none], m0, ox 0, ox 1, o1 (nc u6), o1 (fa 3 u0), o1 (st 1 u0 u3)])
 (sq ([o1 (lN 1 k2), o1 (st 1 k3 u0)])
 .ret))))) [.cellN 1 k3]
noncomputable def af168 : AFunc := .mk 2 (sq ([mc (.int .i64 (.ofNat 0)) 8, mc (.bool false) 9])
 (sq ([o1 (cf 110 []), mt 0 4])
 (.seq (.block 0 (sq ([ml 0, o1 (en u0 (.c (.str 0 0))), m0, o3 (.move k1) 0 false, o3 (ls u0 (.c (.int .i64 (.ofNat 1)))) 1 false, o1 (pk u2 (.c (.bool true)) u0), m0, o3 (.move k1) 0 false, o3 (gt u0 (.c (.int .i64 (.ofNat 2)))) 1 false, o1 (pk u2 (.c (.bool true)) u0), mt 0 2])
 (.cond k2 (sq ([mc (.int .i64 (.ofNat 0)) 8, mc (.bool false) 9])
 .ret) (sq ([ml 1, o1 (en u0 (.c (.int .i64 (.ofNat 2)))), mt 0 3])
 (.cond k3 (sq ([ml 4, o1 (.sliceV true 1 u0 none (some (.c (.int .i64 (.ofNat 17)))) none), ml 0, o1 (cf 128 [u1, u0]), mt 0 5])
 (sq ([ml 5, o1 (.max u0 (.c (.int .i64 (.ofNat 0)))), ml 5, o1 (gt u0 (.c (.int .i64 (.ofNat 0)))), mt 2 8, mt 1 9])
 .ret)) .skip)))))
 (sq ([ml 4, o1 (.sliceV true 1 u0 (some (.c (.int .i64 (.ofNat 17)))) none none), ml 0, o1 (cf 128 [u1, u0]), mt 0 6])
 (.seq (sq ([ml 6, o2 (ls u0 (.c (.int .i64 (.ofNat 0)))) 7])
 (.cond k7 (sq ([mc (.int .i64 (.ofNat 0)) 8, mc (.bool false) 9])
 .ret) .skip))
 (sq ([ml 6, o1 (ad u0 (.c (.int .i64 (.ofNat 17)))), mt 0 8, mc (.bool true) 9])
 .ret)))))) [.val k8, .val k9]
noncomputable def af169 : AFunc := .mk 1 (sq ([mc (.int .i64 (.ofNat 0)) 5])
 (.seq (sq ([o2 (.move k0) 1])
 (.block 0 (.seq (sq ([o1 (en k1 (.c (.int .i64 (.ofNat 3)))), mt 0 2])
 (.cond k2 .skip (sq ([o1 (en k1 (.c (.int .i64 (.ofNat 4)))), mt 0 2])
 (.cond k2 .skip (sq ([o1 (en k1 (.c (.int .i64 (.ofNat 5)))), mt 0 2])
 (.cond k2 .skip (sq ([o1 (en k1 (.c (.int .i64 (.ofNat 9)))), mt 0 2])
 (.cond k2 .skip (sq ([o1 (en k1 (.c (.int .i64 (.ofNat 10)))), mt 0 2])
 (.cond k2 .skip (.ops [o1 (en k1 (.c (.int .i64 (.ofNat 6)))), mt 0 2])))))))))))
 (.cond k2 (sq ([mc (.int .i64 (.ofNat 5)) 5])
 .ret) (.seq (sq ([o1 (en k1 (.c (.int .i64 (.ofNat 1)))), mt 0 3])
 (.cond k3 .skip (sq ([o1 (en k1 (.c (.int .i64 (.ofNat 2)))), mt 0 3])
 (.cond k3 .skip (sq ([o1 (en k1 (.c (.int .i64 (.ofNat 7)))), mt 0 3])
 (.cond k3 .skip (.ops [o1 (en k1 (.c (.int .i64 (.ofNat 8)))), mt 0 3])))))))
 (.cond k3 (sq ([mc (.int .i64 (.ofNat 4)) 5])
 .ret) (.seq (sq ([o1 (en k1 (.c (.int .i64 (.ofNat 11)))), mt 0 4])
 (.cond k4 .skip (sq ([o1 (en k1 (.c (.int .i64 (.ofNat 12)))), mt 0 4])
 (.cond k4 .skip (sq ([o1 (en k1 (.c (.int .i64 (.ofNat 13)))), mt 0 4])
 (.cond k4 .skip (sq ([o1 (en k1 (.c (.int .i64 (.ofNat 14)))), mt 0 4])
 (.cond k4 .skip (sq ([o1 (en k1 (.c (.int .i64 (.ofNat 15)))), mt 0 4])
 (.cond k4 .skip (.ops [o1 (en k1 (.c (.int .i64 (.ofNat 16)))), mt 0 4])))))))))))
 (.cond k4 (sq ([mc (.int .i64 (.ofNat 3)) 5])
 .ret) .skip))))))))
 (sq ([mc (.int .i64 (.ofNat 0)) 5])
 .ret))) [.val k5]
noncomputable def af170 : AFunc := .mk 1 (sq ([o2 (.alloc [.nilp]) 2])
 (sq ([o1 (ld k0), o1 (cf 102 [u0])])
 (sq ([o1 (ld k0), o1 (cf 134 [u0, (.c (.int .i64 (.ofNat 1)))]), o2 (.alloc [.nilp]) 1, o1 (st 1 u0 u1)])
 (sq ([o1 (ld k0), o1 (cf 75 [u0, (.c (.str 1 41))])])
 (sq ([o1 (lN 1 k1), o1 (st 1 k2 u0)])
 .ret))))) [.cellN 1 k2]
noncomputable def af180 : AFunc := .mk 1 (sq ([o2 (.alloc [.nilp]) 2])
 (.seq (.block 0 (sq ([ml 0, o1 (cf 101 [u0]), o1 (.field 0 1 false u0), o1 (en u0 (.c (.int .i64 (.ofNat 3)))), mt 0 1])
 (.cond k1 (sq ([ml 0, o1 (cf 102 [u0]), o1 (cf 190 [u0]), o1 (st 1 k2 u0)])
 .ret) (sq ([ml 0, o1 (cf 101 [u0]), o1 (.field 0 1 false u0), o1 (en u0 (.c (.int .i64 (.ofNat 1)))), mt 0 3])
 (.cond k3 (sq ([ml 0, o1 (cf 191 [u0]), o1 (st 1 k2 u0)])
 .ret) (sq ([ml 0, o1 (cf 96 [u0, (.c (.str 1 40))]), mt 0 4])
 (.cond k4 (sq ([ml 0, o1 (cf 154 [u0]), o1 (st 1 k2 u0)])
 .ret) (sq ([ml 0, o1 (cf 96 [u0, (.c (.str 3 7104878))]), m0, o3 (.move k0) 0 false, o3 (cf 96 [u0, (.c (.str 4 1702195828))]) 1 false, o1 (pk u2 (.c (.bool true)) u0), m0, o3 (.move k0) 0 false, o3 (cf 96 [u0, (.c (.str 5 435728179558))]) 1 false, o1 (pk u2 (.c (.bool true)) u0), m0, o3 (.move k0) 0 false, o3 (cf 96 [u0, (.c (.str 3 7824750))]) 1 false, o1 (pk u2 (.c (.bool true)) u0), m0, o3 (.move k0) 0 false, o3 (cf 96 [u0, (.c (.str 4 1684104562))]) 1 false, o1 (pk u2 (.c (.bool true)) u0), mt 0 5])
 (.cond k5 (sq ([ml 0, o1 (cf 192 [u0]), o1 (st 1 k2 u0)])
 .ret) .skip)))))))))
 (sq ([ml 0, o1 (cf 73 [u0])])
 (sq ([o1 (.build [.nilp] []), o1 (st 1 k2 u0)])
 .ret)))) [.cellN 1 k2]
noncomputable def af190 : AFunc := .mk 1 (sq ([o2 (.box k0) 1, o2 (.alloc [.nilp]) 3])
 (sq ([o1 (fa 2 k1), o1 (ld u0), o1 (cf 40 [(.c (.int .i64 (.ofNat 15))), u0, (.c .nils)]), o2 (.alloc [.nilp]) 2, o1 (st 1 u0 u1)])
 (sq ([o1 (fa 0 k2), o1 (ld u0), o1 (fa 1 k1), o1 (ld u0), .mk (cf 92 [u0]) none none [.mk (ld u3) 2 none], m0, ox 0, ox 1, o1 (nc u6), o1 (fa 3 u0), o1 (st 1 u0 u3)])
 (sq ([o1 (lN 1 k2), o1 (st 1 k3 u0)])
 .ret)))) [.cellN 1 k3]
noncomputable def af191 : AFunc := .mk 1 (sq ([o2 (.alloc [.nilp]) 3])
 (sq ([ml 0, o1 (cf 98 [u0]), o2 (.alloc [(.int .i64 (.ofNat 0)), (.str 0 0), (.int .i64 (.ofNat 0))]) 2, o1 (st 3 u0 u1)])
 (.seq (sq ([ml 0, o2 (cf 96 [u0, (.c (.str 1 40))]) 1])
 (.cond k1 (sq ([ml 0, o1 (lN 3 k2), o1 (cf 196 [u1, u0]), o1 (st 1 k3 u0)])
 .ret) .skip))
 (sq ([o1 (lN 3 k2), o1 (cf 97 [(.c (.int .i64 (.ofNat 18))), u0, (.c .nils)]), o1 (st 1 k3 u0)])
 .ret)))) [.cellN 1 k3]
noncomputable def af192 : AFunc := .mk 1 (sq ([o2 (.alloc [.nilp]) 8])
 (sq ([ml 0, o1 (cf 102 [u0]), o2 (.alloc [(.int .i64 (.ofNat 0)), (.str 0 0), (.int .i64 (.ofNat 0))]) 1, o1 (st 3 u0 u1)])
 (sq ([o1 (fa 2 k1), o1 (ld u0), o1 (cf 40 [(.c (.int .i64 (.ofNat 17))), u0, (.c .nils)]), o2 (.alloc [.nilp]) 4, o1 (st 1 u0 u1)])
 (.seq (sq ([o1 (fa 1 k1), o2 (ld u0) 2])
 (.block 0 (.seq (sq ([o1 (en k2 (.c (.str 4 1702195828))), mt 0 3])
 (.cond k3 .skip (.ops [o1 (en k2 (.c (.str 5 435728179558))), mt 0 3])))
 (.cond k3 (sq ([o1 (fa 0 k4), o1 (ld u0), o1 (nc u0), o1 (fa 0 u0), o1 (st 1 u0 (.c (.int .i64 (.ofNat 16))))])
 (sq ([o1 (fa 1 k1), o1 (ld u0), o2 (en u0 (.c (.str 4 1702195828))) 5])
 (.cond k5 (.ops [o1 (fa 0 k4), o1 (ld u0), o1 (nc u0), o1 (fa 3 u0), o1 (st 1 u0 (.c (.int .i64 (.ofNat 1))))]) .skip))) (sq ([o1 (en k2 (.c (.str 3 7824750))), mt 0 6])
 (.cond k6 (sq ([ml 0, o1 (cf 75 [u0, (.c (.str 1 40))])])
 (sq ([ml 0, o1 (cf 98 [u0]), o1 (cf 97 [(.c (.int .i64 (.ofNat 19))), u0, (.c .nils)]), o1 (st 1 k4 u0)])
 (.ops [ml 0, o1 (cf 75 [u0, (.c (.str 1 41))])]))) (sq ([o1 (en k2 (.c (.str 4 1684104562))), mt 0 7])
 (.cond k7 (sq ([ml 0, o1 (cf 75 [u0, (.c (.str 1 40))])])
 (sq ([ml 0, o1 (cf 75 [u0, (.c (.str 1 41))])])
 (.ops [o1 (fa 0 k4), o1 (ld u0), o1 (nc u0), o1 (fa 0 u0), o1 (st 1 u0 (.c (.int .i64 (.ofNat 22))))]))) .skip))))))))
 (sq ([o1 (lN 1 k4), o1 (st 1 k8 u0)])
 .ret))))) [.cellN 1 k8]
noncomputable def af196 : AFunc := .mk 2 (sq ([o2 (.box k0) 2, o2 (.box k1) 3, o2 (.alloc [.nilp]) 4])
 (sq ([o1 (ld k2), o1 (.mkFn 198 [] [k2, k3]), o1 (cf 120 [u1, u0]), o1 (st 1 k4 u0)])
 .ret)) [.cellN 1 k4]
noncomputable def af198 : AFunc := .mk 2 (sq ([o2 (.alloc [.nilp]) 6])
 (sq ([o1 (ld k0), o1 (cf 102 [u0])])
 (sq ([o1 (lN 3 k1), o1 (cf 97 [(.c (.int .i64 (.ofNat 21))), u0, (.c .nils)]), o2 (.alloc [.nilp]) 3, o1 (st 1 u0 u1)])
 (.seq (.block 0 (.loop (.seq (sq ([o1 (ld k0), o1 (cf 96 [u0, (.c (.str 1 41))]), o2 (.not u0) 2])
 (.cond k2 .skip (.exit 0)))
 (.block 1 (sq ([o1 (fa 0 k3), o1 (ld u0), o1 (fa 0 k3), o1 (ld u0), o1 (nc u0), o1 (fa 5 u0), o1 (ld u0), o1 (ld k0), .mk (cf 134 [u0, (.c (.int .i64 (.ofNat 1)))]) none none [.mk (ld u2) 1 none, .mk (ld u5) 4 none, .mk (ld u7) 6 none], o1 (.bslice [.nilp] 1 [(.mk 0 1 u0)]), .mk (ap 1 8 u3 u0) none none [.mk (ld u9) 8 none], o1 (nc u9), o1 (fa 5 u0), o1 (st 1 u0 u2)])
 (sq ([o1 (ld k0), o1 (cf 96 [u0, (.c (.str 1 41))]), o2 (.not u0) 4])
 (.cond k4 (sq ([o1 (ld k0), o1 (cf 75 [u0, (.c (.str 1 44))])])
 (sq ([o1 (ld k0), o2 (cf 96 [u0, (.c (.str 1 41))]) 5])
 (.cond k5 (.ops [o1 (ld k0), o1 (cf 73 [u0])]) .skip))) .skip)))))))
 (sq ([o1 (ld k0), o1 (cf 102 [u0])])
 (sq ([o1 (lN 1 k3), o1 (st 1 k6 u0)])
 .ret)))))) [.cellN 1 k6]
noncomputable def tabT : T AFunc := (.node none (.node none (.node (some af3) (.node none (.node none (.node none (.node (some af63) .leaf (.node (some af191) .leaf .leaf)) (.node (some af95) .leaf .leaf)) (.node none .leaf (.node (some af111) .leaf .leaf))) (.node (some af23) (.node (some af39) (.node (some af71) (.node (some af135) .leaf .leaf) .leaf) (.node none (.node (some af167) .leaf .leaf) .leaf)) (.node (some af55) .leaf (.node (some af119) .leaf .leaf)))) (.node (some af11) (.node none (.node (some af35) (.node (some af67) .leaf .leaf) (.node (some af99) .leaf .leaf)) (.node none (.node (some af83) .leaf .leaf) (.node (some af115) .leaf .leaf))) (.node none (.node none (.node (some af75) .leaf .leaf) (.node (some af107) .leaf .leaf)) (.node none (.node (some af91) (.node (some af155) .leaf .leaf) .leaf) .leaf)))) (.node none (.node (some af9) (.node none (.node (some af33) (.node (some af65) (.node (some af129) .leaf .leaf) .leaf) (.node (some af97) .leaf .leaf)) (.node none (.node (some af81) .leaf .leaf) .leaf)) (.node (some af25) (.node (some af41) (.node (some af73) (.node (some af137) .leaf .leaf) .leaf) (.node none (.node (some af169) .leaf .leaf) .leaf)) (.node (some af57) (.node (some af89) (.node (some af153) .leaf .leaf) .leaf) (.node (some af121) .leaf .leaf)))) (.node (some af13) (.node (some af21) (.node (some af37) (.node (some af69) (.node (some af133) .leaf .leaf) .leaf) (.node (some af101) .leaf .leaf)) (.node none (.node (some af85) .leaf .leaf) (.node (some af117) .leaf .leaf))) (.node none (.node none .leaf (.node (some af109) .leaf .leaf)) (.node (some af61) (.node (some af93) (.node (some af157) .leaf .leaf) .leaf) (.node (some af125) .leaf .leaf)))))) (.node none (.node none (.node (some af8) (.node none (.node none (.node (some af64) (.node (some af128) .leaf .leaf) (.node (some af192) .leaf .leaf)) (.node (some af96) .leaf .leaf)) .leaf) (.node (some af24) (.node (some af40) (.node (some af72) .leaf .leaf) (.node none (.node (some af168) .leaf .leaf) .leaf)) (.node (some af56) (.node none (.node (some af152) .leaf .leaf) .leaf) (.node (some af120) .leaf .leaf)))) (.node none (.node (some af20) (.node none (.node (some af68) .leaf (.node (some af196) .leaf .leaf)) (.node (some af100) .leaf .leaf)) (.node none (.node (some af84) .leaf .leaf) (.node (some af116) (.node (some af180) .leaf .leaf) .leaf))) (.node (some af28) (.node none .leaf (.node (some af108) .leaf .leaf)) (.node none (.node (some af92) (.node (some af156) .leaf .leaf) .leaf) .leaf)))) (.node none (.node (some af10) (.node (some af18) (.node none (.node (some af66) .leaf .leaf) (.node (some af98) .leaf .leaf)) (.node none (.node (some af82) .leaf .leaf) (.node (some af114) .leaf .leaf))) (.node none (.node none (.node (some af74) (.node (some af138) .leaf .leaf) .leaf) (.node none (.node (some af170) .leaf .leaf) .leaf)) (.node none (.node (some af90) (.node (some af154) .leaf .leaf) .leaf) (.node (some af122) .leaf .leaf)))) (.node (some af14) (.node none (.node (some af38) (.node (some af70) (.node (some af134) .leaf .leaf) (.node (some af198) .leaf .leaf)) (.node (some af102) (.node (some af166) .leaf .leaf) .leaf)) (.node none (.node (some af86) .leaf .leaf) .leaf)) (.node none (.node none .leaf (.node (some af110) .leaf .leaf)) (.node (some af62) (.node (some af94) .leaf .leaf) (.node (some af126) (.node (some af190) .leaf .leaf) .leaf)))))))
noncomputable def tab (f : Nat) : Option AFunc := T.get tabT f
end Go.Ev
namespace Go.Ev
open Go
structure PT (tab : Nat → Option AFunc) : Prop where
 t3 : tab 3 = some af3
 t9 : tab 9 = some af9
 t10 : tab 10 = some af10
 t11 : tab 11 = some af11
 t13 : tab 13 = some af13
 t14 : tab 14 = some af14
 t18 : tab 18 = some af18
 t20 : tab 20 = some af20
 t21 : tab 21 = some af21
 t23 : tab 23 = some af23
 t24 : tab 24 = some af24
 t25 : tab 25 = some af25
 t28 : tab 28 = some af28
 t33 : tab 33 = some af33
 t35 : tab 35 = some af35
 t37 : tab 37 = some af37
 t38 : tab 38 = some af38
 t39 : tab 39 = some af39
 t40 : tab 40 = some af40
 t41 : tab 41 = some af41
 t55 : tab 55 = some af55
 t56 : tab 56 = some af56
 t57 : tab 57 = some af57
 t61 : tab 61 = some af61
 t62 : tab 62 = some af62
 t63 : tab 63 = some af63
 t64 : tab 64 = some af64
 t65 : tab 65 = some af65
 t66 : tab 66 = some af66
 t67 : tab 67 = some af67
 t68 : tab 68 = some af68
 t69 : tab 69 = some af69
 t70 : tab 70 = some af70
 t71 : tab 71 = some af71
 t72 : tab 72 = some af72
 t73 : tab 73 = some af73
 t74 : tab 74 = some af74
 t75 : tab 75 = some af75
 t81 : tab 81 = some af81
 t82 : tab 82 = some af82
 t83 : tab 83 = some af83
 t84 : tab 84 = some af84
 t85 : tab 85 = some af85
 t86 : tab 86 = some af86
 t89 : tab 89 = some af89
 t90 : tab 90 = some af90
 t91 : tab 91 = some af91
 t92 : tab 92 = some af92
 t93 : tab 93 = some af93
 t94 : tab 94 = some af94
 t95 : tab 95 = some af95
 t96 : tab 96 = some af96
 t97 : tab 97 = some af97
 t98 : tab 98 = some af98
 t99 : tab 99 = some af99
 t100 : tab 100 = some af100
 t101 : tab 101 = some af101
 t102 : tab 102 = some af102
 t107 : tab 107 = some af107
 t108 : tab 108 = some af108
 t109 : tab 109 = some af109
 t110 : tab 110 = some af110
 t111 : tab 111 = some af111
 t114 : tab 114 = some af114
 t115 : tab 115 = some af115
 t116 : tab 116 = some af116
 t117 : tab 117 = some af117
 t119 : tab 119 = some af119
 t120 : tab 120 = some af120
 t121 : tab 121 = some af121
 t122 : tab 122 = some af122
 t125 : tab 125 = some af125
 t126 : tab 126 = some af126
 t128 : tab 128 = some af128
 t129 : tab 129 = some af129
 t133 : tab 133 = some af133
 t134 : tab 134 = some af134
 t135 : tab 135 = some af135
 t137 : tab 137 = some af137
 t138 : tab 138 = some af138
 t152 : tab 152 = some af152
 t153 : tab 153 = some af153
 t154 : tab 154 = some af154
 t155 : tab 155 = some af155
 t156 : tab 156 = some af156
 t157 : tab 157 = some af157
 t166 : tab 166 = some af166
 t167 : tab 167 = some af167
 t168 : tab 168 = some af168
 t169 : tab 169 = some af169
 t170 : tab 170 = some af170
 t180 : tab 180 = some af180
 t190 : tab 190 = some af190
 t191 : tab 191 = some af191
 t192 : tab 192 = some af192
 t196 : tab 196 = some af196
 t198 : tab 198 = some af198
 t36 : tab 36 = some (natF 2 joinG)
 t118 : tab 118 = some (natF 1 (atoiG 144))
 t127 : tab 127 = some (natF 1 itoaG)
 t130 : tab 130 = some (natF 2 trimG)
 t8 : tab 8 = some yesF
theorem LITS : AV.str 1 32 = sv [32] ∧ AV.str 1 33 = sv [33] ∧ AV.str 1 37 = sv [37] ∧ AV.str 1 38 = sv [38] ∧ AV.str 1 40 = sv [40] ∧ AV.str 1 41 = sv [41] ∧ AV.str 1 42 = sv [42] ∧ AV.str 1 43 = sv [43] ∧ AV.str 1 44 = sv [44] ∧ AV.str 1 45 = sv [45] ∧ AV.str 1 46 = sv [46] ∧ AV.str 1 47 = sv [47] ∧ AV.str 1 48 = sv [48] ∧ AV.str 1 59 = sv [59] ∧ AV.str 1 60 = sv [60] ∧ AV.str 1 61 = sv [61] ∧ AV.str 1 62 = sv [62] ∧ AV.str 1 94 = sv [94] ∧ AV.str 1 123 = sv [123] ∧ AV.str 1 124 = sv [124] ∧ AV.str 1 125 = sv [125] ∧ AV.str 2 9766 = sv [38, 38] ∧ AV.str 2 12079 = sv [47, 47] ∧ AV.str 2 12333 = sv [45, 48] ∧ AV.str 2 15420 = sv [60, 60] ∧ AV.str 2 15649 = sv [33, 61] ∧ AV.str 2 15674 = sv [58, 61] ∧ AV.str 2 15676 = sv [60, 61] ∧ AV.str 2 15677 = sv [61, 61] ∧ AV.str 2 15678 = sv [62, 61] ∧ AV.str 2 15934 = sv [62, 62] ∧ AV.str 2 26217 = sv [105, 102] ∧ AV.str 2 31868 = sv [124, 124] ∧ AV.str 3 7104878 = sv [110, 105, 108] ∧ AV.str 3 7496054 = sv [118, 97, 114] ∧ AV.str 3 7499622 = sv [102, 111, 114] ∧ AV.str 3 7630441 = sv [105, 110, 116] ∧ AV.str 3 7824750 = sv [110, 101, 119] ∧ AV.str 4 1668183398 = sv [102, 117, 110, 99] ∧ AV.str 4 1684104562 = sv [114, 101, 97, 100] ∧ AV.str 4 1701869940 = sv [116, 121, 112, 101] ∧ AV.str 4 1702063205 = sv [101, 108, 115, 101] ∧ AV.str 4 1702195828 = sv [116, 114, 117, 101] ∧ AV.str 4 1819242338 = sv [98, 111, 111, 108] ∧ AV.str 5 435728179558 = sv [102, 97, 108, 115, 101] ∧ AV.str 5 500068610672 = sv [112, 114, 105, 110, 116] ∧ AV.str 5 515940442486 = sv [118, 97, 114, 32, 120] ∧ AV.str 6 121437875889522 = sv [114, 101, 116, 117, 114, 110] ∧ AV.str 6 127970521019507 = sv [115, 116, 114, 117, 99, 116] ∧ AV.str 10 270211885617516653982000 = sv [48, 49, 50, 51, 52, 53, 54, 55, 56, 57] ∧ AV.str 21 182871710923389474175786820334794228673288699016550 = sv [102, 117, 110, 99, 32, 109, 97, 105, 110, 40, 41, 32, 123, 32, 120, 32, 61, 32, 59, 32, 125] ∧ AV.str 26 201238614752453330410235576641456868381659233630383318147954022 = sv [102, 117, 110, 99, 32, 109, 97, 105, 110, 40, 41, 123, 112, 114, 105, 110, 116, 40, 49, 43, 50, 42, 51, 41, 59, 125] ∧ AV.str 47 75229058429591039359104473166271573744682509599169374227409512564160682176746127005125807165971543139154490455398 = sv [102, 117, 110, 99, 32, 109, 97, 105, 110, 32, 40, 32, 41, 32, 123, 32, 112, 114, 105, 110, 116, 32, 40, 32, 40, 32, 49, 32, 43, 32, 40, 32, 50, 32, 42, 32, 51, 32, 41, 32, 41, 32, 41, 32, 59, 32, 125] := ⟨rfl, rfl, rfl, rfl, rfl, rfl, rfl, rfl, rfl, rfl, rfl, rfl, rfl, rfl, rfl, rfl, rfl, rfl, rfl, rfl, rfl, rfl, rfl, rfl, rfl, rfl, rfl, rfl, rfl, rfl, rfl, rfl, rfl, rfl, rfl, rfl, rfl, rfl, rfl, rfl, rfl, rfl, rfl, rfl, rfl, rfl, rfl, rfl, rfl, rfl, rfl, rfl, rfl⟩
theorem EL : type_of% (And.intro EE (And.intro LITS (And.intro @Nat.succ_eq_add_one (And.intro @zId @zEn)))) := And.intro EE (And.intro LITS (And.intro @Nat.succ_eq_add_one (And.intro @zId @zEn)))
theorem K3 : type_of% @zEo := @zEo
theorem K1 : type_of% @zEp := @zEp
end Go.Ev
namespace Go.Ev
open Go
set_option maxRecDepth 100000
set_option maxHeartbeats 4000000
theorem c3 : cFunc Go.Proofs.Tryz.prog 3 = some af3 := by kernel_rfl
theorem c8 : cFunc Go.Proofs.Tryz.prog 8 = some af8 := by kernel_rfl
theorem c9 : cFunc Go.Proofs.Tryz.prog 9 = some af9 := by kernel_rfl
theorem c10 : cFunc Go.Proofs.Tryz.prog 10 = some af10 := by kernel_rfl
theorem c11 : cFunc Go.Proofs.Tryz.prog 11 = some af11 := by kernel_rfl
theorem c13 : cFunc Go.Proofs.Tryz.prog 13 = some af13 := by kernel_rfl
theorem c14 : cFunc Go.Proofs.Tryz.prog 14 = some af14 := by kernel_rfl
theorem c18 : cFunc Go.Proofs.Tryz.prog 18 = some af18 := by kernel_rfl
theorem c20 : cFunc Go.Proofs.Tryz.prog 20 = some af20 := by kernel_rfl
theorem c21 : cFunc Go.Proofs.Tryz.prog 21 = some af21 := by kernel_rfl
theorem c23 : cFunc Go.Proofs.Tryz.prog 23 = some af23 := by kernel_rfl
theorem c24 : cFunc Go.Proofs.Tryz.prog 24 = some af24 := by kernel_rfl
theorem c25 : cFunc Go.Proofs.Tryz.prog 25 = some af25 := by kernel_rfl
theorem c28 : cFunc Go.Proofs.Tryz.prog 28 = some af28 := by kernel_rfl
theorem c33 : cFunc Go.Proofs.Tryz.prog 33 = some af33 := by kernel_rfl
theorem c35 : cFunc Go.Proofs.Tryz.prog 35 = some af35 := by kernel_rfl
theorem c37 : cFunc Go.Proofs.Tryz.prog 37 = some af37 := by kernel_rfl
theorem c38 : cFunc Go.Proofs.Tryz.prog 38 = some af38 := by kernel_rfl
theorem c39 : cFunc Go.Proofs.Tryz.prog 39 = some af39 := by kernel_rfl
theorem c40 : cFunc Go.Proofs.Tryz.prog 40 = some af40 := by kernel_rfl
theorem c41 : cFunc Go.Proofs.Tryz.prog 41 = some af41 := by kernel_rfl
theorem c55 : cFunc Go.Proofs.Tryz.prog 55 = some af55 := by kernel_rfl
end Go.Ev
namespace Go.Ev
open Go
set_option maxRecDepth 100000
set_option maxHeartbeats 4000000
theorem c56 : cFunc Go.Proofs.Tryz.prog 56 = some af56 := by kernel_rfl
theorem c57 : cFunc Go.Proofs.Tryz.prog 57 = some af57 := by kernel_rfl
theorem c61 : cFunc Go.Proofs.Tryz.prog 61 = some af61 := by kernel_rfl
theorem c62 : cFunc Go.Proofs.Tryz.prog 62 = some af62 := by kernel_rfl
theorem c63 : cFunc Go.Proofs.Tryz.prog 63 = some af63 := by kernel_rfl
theorem c64 : cFunc Go.Proofs.Tryz.prog 64 = some af64 := by kernel_rfl
theorem c65 : cFunc Go.Proofs.Tryz.prog 65 = some af65 := by kernel_rfl
theorem c66 : cFunc Go.Proofs.Tryz.prog 66 = some af66 := by kernel_rfl
theorem c67 : cFunc Go.Proofs.Tryz.prog 67 = some af67 := by kernel_rfl
theorem c68 : cFunc Go.Proofs.Tryz.prog 68 = some af68 := by kernel_rfl
theorem c69 : cFunc Go.Proofs.Tryz.prog 69 = some af69 := by kernel_rfl
theorem c70 : cFunc Go.Proofs.Tryz.prog 70 = some af70 := by kernel_rfl
theorem c71 : cFunc Go.Proofs.Tryz.prog 71 = some af71 := by kernel_rfl
theorem c72 : cFunc Go.Proofs.Tryz.prog 72 = some af72 := by kernel_rfl
theorem c73 : cFunc Go.Proofs.Tryz.prog 73 = some af73 := by kernel_rfl
theorem c74 : cFunc Go.Proofs.Tryz.prog 74 = some af74 := by kernel_rfl
theorem c75 : cFunc Go.Proofs.Tryz.prog 75 = some af75 := by kernel_rfl
theorem c81 : cFunc Go.Proofs.Tryz.prog 81 = some af81 := by kernel_rfl
theorem c82 : cFunc Go.Proofs.Tryz.prog 82 = some af82 := by kernel_rfl
theorem c83 : cFunc Go.Proofs.Tryz.prog 83 = some af83 := by kernel_rfl
theorem c84 : cFunc Go.Proofs.Tryz.prog 84 = some af84 := by kernel_rfl
theorem c85 : cFunc Go.Proofs.Tryz.prog 85 = some af85 := by kernel_rfl
theorem c86 : cFunc Go.Proofs.Tryz.prog 86 = some af86 := by kernel_rfl
theorem c89 : cFunc Go.Proofs.Tryz.prog 89 = some af89 := by kernel_rfl
theorem c90 : cFunc Go.Proofs.Tryz.prog 90 = some af90 := by kernel_rfl
theorem c91 : cFunc Go.Proofs.Tryz.prog 91 = some af91 := by kernel_rfl
theorem c92 : cFunc Go.Proofs.Tryz.prog 92 = some af92 := by kernel_rfl
end Go.Ev
namespace Go.Ev
open Go
set_option maxRecDepth 100000
set_option maxHeartbeats 4000000
theorem c93 : cFunc Go.Proofs.Tryz.prog 93 = some af93 := by kernel_rfl
theorem c94 : cFunc Go.Proofs.Tryz.prog 94 = some af94 := by kernel_rfl
theorem c95 : cFunc Go.Proofs.Tryz.prog 95 = some af95 := by kernel_rfl
theorem c96 : cFunc Go.Proofs.Tryz.prog 96 = some af96 := by kernel_rfl
theorem c97 : cFunc Go.Proofs.Tryz.prog 97 = some af97 := by kernel_rfl
theorem c98 : cFunc Go.Proofs.Tryz.prog 98 = some af98 := by kernel_rfl
theorem c99 : cFunc Go.Proofs.Tryz.prog 99 = some af99 := by kernel_rfl
theorem c100 : cFunc Go.Proofs.Tryz.prog 100 = some af100 := by kernel_rfl
theorem c101 : cFunc Go.Proofs.Tryz.prog 101 = some af101 := by kernel_rfl
theorem c102 : cFunc Go.Proofs.Tryz.prog 102 = some af102 := by kernel_rfl
theorem c107 : cFunc Go.Proofs.Tryz.prog 107 = some af107 := by kernel_rfl
theorem c108 : cFunc Go.Proofs.Tryz.prog 108 = some af108 := by kernel_rfl
theorem c109 : cFunc Go.Proofs.Tryz.prog 109 = some af109 := by kernel_rfl
theorem c110 : cFunc Go.Proofs.Tryz.prog 110 = some af110 := by kernel_rfl
theorem c111 : cFunc Go.Proofs.Tryz.prog 111 = some af111 := by kernel_rfl
theorem c114 : cFunc Go.Proofs.Tryz.prog 114 = some af114 := by kernel_rfl
theorem c115 : cFunc Go.Proofs.Tryz.prog 115 = some af115 := by kernel_rfl
theorem c116 : cFunc Go.Proofs.Tryz.prog 116 = some af116 := by kernel_rfl
theorem c117 : cFunc Go.Proofs.Tryz.prog 117 = some af117 := by kernel_rfl
theorem c119 : cFunc Go.Proofs.Tryz.prog 119 = some af119 := by kernel_rfl
theorem c120 : cFunc Go.Proofs.Tryz.prog 120 = some af120 := by kernel_rfl
theorem c121 : cFunc Go.Proofs.Tryz.prog 121 = some af121 := by kernel_rfl
theorem c122 : cFunc Go.Proofs.Tryz.prog 122 = some af122 := by kernel_rfl
theorem c125 : cFunc Go.Proofs.Tryz.prog 125 = some af125 := by kernel_rfl
theorem c126 : cFunc Go.Proofs.Tryz.prog 126 = some af126 := by kernel_rfl
theorem c128 : cFunc Go.Proofs.Tryz.prog 128 = some af128 := by kernel_rfl
theorem c129 : cFunc Go.Proofs.Tryz.prog 129 = some af129 := by kernel_rfl
theorem c133 : cFunc Go.Proofs.Tryz.prog 133 = some af133 := by kernel_rfl
theorem c134 : cFunc Go.Proofs.Tryz.prog 134 = some af134 := by kernel_rfl
theorem c135 : cFunc Go.Proofs.Tryz.prog 135 = some af135 := by kernel_rfl
end Go.Ev
namespace Go.Ev
open Go
set_option maxRecDepth 100000
set_option maxHeartbeats 4000000
theorem c137 : cFunc Go.Proofs.Tryz.prog 137 = some af137 := by kernel_rfl
theorem c138 : cFunc Go.Proofs.Tryz.prog 138 = some af138 := by kernel_rfl
theorem c152 : cFunc Go.Proofs.Tryz.prog 152 = some af152 := by kernel_rfl
theorem c153 : cFunc Go.Proofs.Tryz.prog 153 = some af153 := by kernel_rfl
theorem c154 : cFunc Go.Proofs.Tryz.prog 154 = some af154 := by kernel_rfl
theorem c155 : cFunc Go.Proofs.Tryz.prog 155 = some af155 := by kernel_rfl
theorem c156 : cFunc Go.Proofs.Tryz.prog 156 = some af156 := by kernel_rfl
theorem c157 : cFunc Go.Proofs.Tryz.prog 157 = some af157 := by kernel_rfl
theorem c166 : cFunc Go.Proofs.Tryz.prog 166 = some af166 := by kernel_rfl
theorem c167 : cFunc Go.Proofs.Tryz.prog 167 = some af167 := by kernel_rfl
theorem c168 : cFunc Go.Proofs.Tryz.prog 168 = some af168 := by kernel_rfl
theorem c169 : cFunc Go.Proofs.Tryz.prog 169 = some af169 := by kernel_rfl
theorem c170 : cFunc Go.Proofs.Tryz.prog 170 = some af170 := by kernel_rfl
theorem c180 : cFunc Go.Proofs.Tryz.prog 180 = some af180 := by kernel_rfl
theorem c190 : cFunc Go.Proofs.Tryz.prog 190 = some af190 := by kernel_rfl
theorem c191 : cFunc Go.Proofs.Tryz.prog 191 = some af191 := by kernel_rfl
theorem c192 : cFunc Go.Proofs.Tryz.prog 192 = some af192 := by kernel_rfl
theorem c196 : cFunc Go.Proofs.Tryz.prog 196 = some af196 := by kernel_rfl
theorem c198 : cFunc Go.Proofs.Tryz.prog 198 = some af198 := by kernel_rfl
end Go.Ev
namespace Go.Ev
open Go
set_option maxRecDepth 100000
set_option maxHeartbeats 4000000
theorem mixed : Go.Proofs.Tryz.prog.follows .mixedOrders = true := by kernel_rfl
theorem allT : AllT (fun f af => cFunc Go.Proofs.Tryz.prog f = some af) tabT id := (AllT.node noE (AllT.node noE (AllT.node (entE c3) (AllT.node noE (AllT.node noE (AllT.node noE (AllT.node (entE c63) AllT.leaf (AllT.node (entE c191) AllT.leaf AllT.leaf)) (AllT.node (entE c95) AllT.leaf AllT.leaf)) (AllT.node noE AllT.leaf (AllT.node (entE c111) AllT.leaf AllT.leaf))) (AllT.node (entE c23) (AllT.node (entE c39) (AllT.node (entE c71) (AllT.node (entE c135) AllT.leaf AllT.leaf) AllT.leaf) (AllT.node noE (AllT.node (entE c167) AllT.leaf AllT.leaf) AllT.leaf)) (AllT.node (entE c55) AllT.leaf (AllT.node (entE c119) AllT.leaf AllT.leaf)))) (AllT.node (entE c11) (AllT.node noE (AllT.node (entE c35) (AllT.node (entE c67) AllT.leaf AllT.leaf) (AllT.node (entE c99) AllT.leaf AllT.leaf)) (AllT.node noE (AllT.node (entE c83) AllT.leaf AllT.leaf) (AllT.node (entE c115) AllT.leaf AllT.leaf))) (AllT.node noE (AllT.node noE (AllT.node (entE c75) AllT.leaf AllT.leaf) (AllT.node (entE c107) AllT.leaf AllT.leaf)) (AllT.node noE (AllT.node (entE c91) (AllT.node (entE c155) AllT.leaf AllT.leaf) AllT.leaf) AllT.leaf)))) (AllT.node noE (AllT.node (entE c9) (AllT.node noE (AllT.node (entE c33) (AllT.node (entE c65) (AllT.node (entE c129) AllT.leaf AllT.leaf) AllT.leaf) (AllT.node (entE c97) AllT.leaf AllT.leaf)) (AllT.node noE (AllT.node (entE c81) AllT.leaf AllT.leaf) AllT.leaf)) (AllT.node (entE c25) (AllT.node (entE c41) (AllT.node (entE c73) (AllT.node (entE c137) AllT.leaf AllT.leaf) AllT.leaf) (AllT.node noE (AllT.node (entE c169) AllT.leaf AllT.leaf) AllT.leaf)) (AllT.node (entE c57) (AllT.node (entE c89) (AllT.node (entE c153) AllT.leaf AllT.leaf) AllT.leaf) (AllT.node (entE c121) AllT.leaf AllT.leaf)))) (AllT.node (entE c13) (AllT.node (entE c21) (AllT.node (entE c37) (AllT.node (entE c69) (AllT.node (entE c133) AllT.leaf AllT.leaf) AllT.leaf) (AllT.node (entE c101) AllT.leaf AllT.leaf)) (AllT.node noE (AllT.node (entE c85) AllT.leaf AllT.leaf) (AllT.node (entE c117) AllT.leaf AllT.leaf))) (AllT.node noE (AllT.node noE AllT.leaf (AllT.node (entE c109) AllT.leaf AllT.leaf)) (AllT.node (entE c61) (AllT.node (entE c93) (AllT.node (entE c157) AllT.leaf AllT.leaf) AllT.leaf) (AllT.node (entE c125) AllT.leaf AllT.leaf)))))) (AllT.node noE (AllT.node noE (AllT.node (entE c8) (AllT.node noE (AllT.node noE (AllT.node (entE c64) (AllT.node (entE c128) AllT.leaf AllT.leaf) (AllT.node (entE c192) AllT.leaf AllT.leaf)) (AllT.node (entE c96) AllT.leaf AllT.leaf)) AllT.leaf) (AllT.node (entE c24) (AllT.node (entE c40) (AllT.node (entE c72) AllT.leaf AllT.leaf) (AllT.node noE (AllT.node (entE c168) AllT.leaf AllT.leaf) AllT.leaf)) (AllT.node (entE c56) (AllT.node noE (AllT.node (entE c152) AllT.leaf AllT.leaf) AllT.leaf) (AllT.node (entE c120) AllT.leaf AllT.leaf)))) (AllT.node noE (AllT.node (entE c20) (AllT.node noE (AllT.node (entE c68) AllT.leaf (AllT.node (entE c196) AllT.leaf AllT.leaf)) (AllT.node (entE c100) AllT.leaf AllT.leaf)) (AllT.node noE (AllT.node (entE c84) AllT.leaf AllT.leaf) (AllT.node (entE c116) (AllT.node (entE c180) AllT.leaf AllT.leaf) AllT.leaf))) (AllT.node (entE c28) (AllT.node noE AllT.leaf (AllT.node (entE c108) AllT.leaf AllT.leaf)) (AllT.node noE (AllT.node (entE c92) (AllT.node (entE c156) AllT.leaf AllT.leaf) AllT.leaf) AllT.leaf)))) (AllT.node noE (AllT.node (entE c10) (AllT.node (entE c18) (AllT.node noE (AllT.node (entE c66) AllT.leaf AllT.leaf) (AllT.node (entE c98) AllT.leaf AllT.leaf)) (AllT.node noE (AllT.node (entE c82) AllT.leaf AllT.leaf) (AllT.node (entE c114) AllT.leaf AllT.leaf))) (AllT.node noE (AllT.node noE (AllT.node (entE c74) (AllT.node (entE c138) AllT.leaf AllT.leaf) AllT.leaf) (AllT.node noE (AllT.node (entE c170) AllT.leaf AllT.leaf) AllT.leaf)) (AllT.node noE (AllT.node (entE c90) (AllT.node (entE c154) AllT.leaf AllT.leaf) AllT.leaf) (AllT.node (entE c122) AllT.leaf AllT.leaf)))) (AllT.node (entE c14) (AllT.node noE (AllT.node (entE c38) (AllT.node (entE c70) (AllT.node (entE c134) AllT.leaf AllT.leaf) (AllT.node (entE c198) AllT.leaf AllT.leaf)) (AllT.node (entE c102) (AllT.node (entE c166) AllT.leaf AllT.leaf) AllT.leaf)) (AllT.node noE (AllT.node (entE c86) AllT.leaf AllT.leaf) AllT.leaf)) (AllT.node noE (AllT.node noE AllT.leaf (AllT.node (entE c110) AllT.leaf AllT.leaf)) (AllT.node (entE c62) (AllT.node (entE c94) AllT.leaf AllT.leaf) (AllT.node (entE c126) (AllT.node (entE c190) AllT.leaf AllT.leaf) AllT.leaf)))))))
noncomputable def tabA : T AFunc := (T.log 4 130 (some (natF 2 trimG)) (T.log 3 127 (some (natF 1 itoaG)) (T.log 2 118 (some (natF 1 (atoiG 144))) (T.log 1 36 (some (natF 2 joinG)) tabT))))
theorem tabA_ok [Glob] (k36 : NatOK Go.Proofs.Tryz.prog 36 (joinG)) (k118 : NatOK Go.Proofs.Tryz.prog 118 ((atoiG 144))) (k127 : NatOK Go.Proofs.Tryz.prog 127 (itoaG)) (k130 : NatOK Go.Proofs.Tryz.prog 130 (trimG)) : TabOK Go.Proofs.Tryz.prog (fun f => T.get tabA f) := (TabOK.logN (TabOK.logN (TabOK.logN (TabOK.logN (fun f af h => .inl (allT.get h)) k36) k118) k127) k130)
theorem anchor : isTrue (evF (fun f => T.get tabA f) 1000000 8 [] (AH.mk T.leaf 0)) = true := by kernel_rfl
noncomputable def tabL (f : Nat) : Option AFunc := T.get (T.log 5 8 (some yesF) tabA) f
theorem tabL_ok [Glob] (k36 : NatOK Go.Proofs.Tryz.prog 36 (joinG)) (k118 : NatOK Go.Proofs.Tryz.prog 118 ((atoiG 144))) (k127 : NatOK Go.Proofs.Tryz.prog 127 (itoaG)) (k130 : NatOK Go.Proofs.Tryz.prog 130 (trimG)) : TabOK Go.Proofs.Tryz.prog tabL := TabOK.logN (tabA_ok k36 k118 k127 k130) (nat_true mixed (tabA_ok k36 k118 k127 k130) (by kernel_rfl) anchor)
theorem ptL : PT tabL := by constructor <;> kernel_rfl
end Go.Ev
namespace Go.Ev
open Go Go.Pa
set_option linter.unusedSimpArgs false
set_option linter.unusedVariables false
set_option maxRecDepth 100000
set_option maxHeartbeats 4000000
section
variable {tab : Nat → Option AFunc} {h : AH} (H : PT tab)
theorem MoreBut.seto {r i : Nat} {a b : AH} (x : MoreBut r a b) (hi : a.next ≤ i) (o : AObj) : MoreBut r a (b.set i o) := ⟨by rw [AH.set_next]; exact x.next, fun k h1 h2 => by rw [AH.set_mem, T.get_put_ne _ _ _ _ (by omega), x.keep k h1 h2]⟩
abbrev tokV (t : Tok) : AV := .agg [.int .i64 (t.kind : Int), sv t.text, .int .i64 (t.pos : Int)]
def TokA (h : AH) (r : Nat) (tl : AV) (ts : List Tok) : Prop := (ts = [] ∧ tl = .nils) ∨ ∃ id c s cap, tl = .sl id 0 ts.length cap ∧ id < r ∧ h.mem.get id = some (.cells c s none false) ∧
 ∀ j (hj : j < ts.length), c.get (j * 3) = some (.int .i64 (ts[j].kind : Int)) ∧ c.get (j * 3 + 1) = some (sv ts[j].text) ∧ c.get (j * 3 + 1 + 1) = some (.int .i64 (ts[j].pos : Int))
theorem TokA.keep {h h' : AH} {r : Nat} {tl : AV} {ts : List Tok} (x : TokA h r tl ts) (m : ∀ k, k < r → h'.mem.get k = h.mem.get k) : TokA h' r tl ts := by
 rcases x with x | ⟨id, c, s, cap, h1, h2, h3, h4⟩
 ·exact .inl x
 ·exact .inr ⟨id, c, s, cap, h1, h2, by rw [m _ h2]; exact h3, h4⟩
def Digs (s : Str) : Prop := s ≠ [] ∧ (∀ c ∈ s, 48 ≤ c.toNat ∧ c.toNat ≤ 57) ∧ s.length ≤ 1000000
def numP (s : Str) : Int × Nat := if s.head? = some 48 ∧ s ≠ [48] then (0, 1) else match Lib.atoiAll s with | .ok v => (v, 0) | .range => (0, 2) | _ => (0, 1)
structure RS (ts : List Tok) (en : Nat) (h : AH) (r i d : Nat) : Prop where
 lt : r < h.next
 le : i ≤ ts.length
 hen : en < 1000000
 ln : ts.length < 1000000
 txt : ∀ j, (now ts en j).text.length ≤ 1000000
 num : ∀ j, (now ts en j).kind = 3 → Digs (now ts en j).text ∧ (numP (now ts en j).text).2 = 0
 cell : ∃ c tl, h.mem.get r = some (.cells c 4 none false) ∧ c.get 0 = some tl ∧ c.get 1 = some (.int .i64 (i : Int)) ∧ c.get 2 = some (.int .i64 (en : Int)) ∧ c.get 3 = some (.int .i64 (d : Int)) ∧ TokA h r tl ts
variable {ts : List Tok} {en r i d : Nat}
theorem RS.keep {h' : AH} (x : RS ts en h r i d) (hn : h.next ≤ h'.next) (m : ∀ k, k ≤ r → h'.mem.get k = h.mem.get k) : RS ts en h' r i d := by
 obtain ⟨a, b, b2, b4, b5, b6, c, tl, c0, c1, c2, c3, c4, c5⟩ := x
 exact ⟨Nat.lt_of_lt_of_le a hn, b, b2, b4, b5, b6, c, tl, by rw [m _ (Nat.le_refl _)]; exact c0, c1, c2, c3, c4, c5.keep fun k hk => m k (Nat.le_of_lt hk)⟩
theorem RS.more {h' : AH} (x : RS ts en h r i d) (m : More h h') : RS ts en h' r i d := x.keep m.next fun k hk => m.keep k (Nat.lt_of_le_of_lt hk x.lt)
theorem RS.seto (x : RS ts en h r i d) {k : Nat} (hk : r < k) (o : AObj) : RS ts en (h.set k o) r i d := x.keep (by rw [AH.set_next]; exact Nat.le_refl _) fun j hj => by rw [AH.set_mem, T.get_put_ne _ _ _ _ (by omega)]
theorem RS.putI (x : RS ts en h r i d) (hi : i < ts.length) {c : T AV} (hc : h.mem.get r = some (.cells c 4 none false)) : RS ts en (h.set r (.cells (T.put (some (.int .i64 ((i + 1 : Nat) : Int))) c 1) 4 none false)) r (i + 1) d := by
 obtain ⟨a, b, b2, b4, b5, b6, c', tl, c0, c1, c2, c3, c4, c5⟩ := x
 rw [hc] at c0; injection c0 with c0; injection c0 with c0; subst c0
 refine ⟨by rw [AH.set_next]; exact a, hi, b2, b4, b5, b6, _, tl, AH.get_set, ?_, ?_, ?_, ?_, c5.keep fun k hk => by rw [AH.set_mem, T.get_put_ne _ _ _ _ (by omega)]⟩
 ·rw [T.get_put_ne _ _ _ _ (by omega)]; exact c1
 ·rw [T.get_put_self]
 ·rw [T.get_put_ne _ _ _ _ (by omega)]; exact c3
 ·rw [T.get_put_ne _ _ _ _ (by omega)]; exact c4
theorem RS.putD (x : RS ts en h r i d) {d' : Nat} {c : T AV} (hc : h.mem.get r = some (.cells c 4 none false)) : RS ts en (h.set r (.cells (T.put (some (.int .i64 (d' : Int))) c 3) 4 none false)) r i d' := by
 obtain ⟨a, b, b2, b4, b5, b6, c', tl, c0, c1, c2, c3, c4, c5⟩ := x
 rw [hc] at c0; injection c0 with c0; injection c0 with c0; subst c0
 refine ⟨by rw [AH.set_next]; exact a, b, b2, b4, b5, b6, _, tl, AH.get_set, ?_, ?_, ?_, ?_, c5.keep fun k hk => by rw [AH.set_mem, T.get_put_ne _ _ _ _ (by omega)]⟩
 ·rw [T.get_put_ne _ _ _ _ (by omega)]; exact c1
 ·rw [T.get_put_ne _ _ _ _ (by omega)]; exact c2
 ·rw [T.get_put_ne _ _ _ _ (by omega)]; exact c3
 ·rw [T.get_put_self]
def stopV (p e : Nat) : AV := .ifc 54 (.agg [.int .i64 (p : Int), .int .i64 (e : Int)])
def okP {α : Type} (y : PR α) (ts : List Tok) (en r i0 d : Nat) (h : AH) (K : α → AV → AH → Prop) (v : AV) (h1 : AH) : Prop := ∃ a i, y = .ok a i d ∧ i0 < i ∧ RS ts en h1 r i d ∧ MoreBut r h h1 ∧ K a v h1
def erP {α : Type} (y : PR α) (r : Nat) (h : AH) (v : AV) (h1 : AH) : Prop := ∃ p e, y = .err p e ∧ v = stopV p e ∧ MoreBut r h h1
def GS {α : Type} (tab : Nat → Option AFunc) (f : Nat) (args : List AV) (ts : List Tok) (en r i d : Nat) (h : AH) (x : PR α) (K : α → AV → AH → Prop) : Prop := ∀ y, x = y → y ≠ .out → GE tab f args h (okP y ts en r i d h K) (erP y r h)
theorem zAw {α β : Type} {x : PR α} {k : α → Nat → Nat → PR β} {y : PR β} (e : x.bind k = y) (hn : y ≠ .out) : x ≠ .out := fun h => hn (by rw [← e, h]; rfl)
theorem zKd {i : Nat} (hi : i < ts.length) : now ts en i = ts[i] := by unfold now; rw [List.getD_eq_getElem?_getD, List.getElem?_eq_getElem hi]; rfl
theorem zEa {i : Nat} (hi : ¬ i < ts.length) : now ts en i = ⟨0, [], en⟩ := by unfold now; rw [List.getD_eq_getElem?_getD, List.getElem?_eq_none (by omega)]; rfl
theorem is_lt {s : Str} {i : Nat} (hi : isT ts en s i = true) : i < ts.length := by
 rcases Nat.lt_or_ge i ts.length with h | h
 ·exact h
 ·unfold isT at hi; rw [zEa (by omega)] at hi; simp at hi
include H in
theorem zG8 (R : RS ts en h r i d) : GP tab 101 [.ptr r 0] h fun v h1 => v = tokV (now ts en i) ∧ More h h1 := by
 have i0 : zAh [.ptr r 0] = zAd [.ptr r 0] := rfl
 have ln := R.ln
 have hlen := R.le
 have hen := R.hen
 refine GE.gp (ge_of H.t101 rfl ?_) (E := fun _ _ => False) fun _ _ => id
 refine zBc fun h1 n1 g1 m1 => ?_
 have R1 := R.more m1
 obtain ⟨_, _, _, _, _, _, c, tl, c0, c1, c2, c3, c4, c5⟩ := R1
 have ltl : ∀ h', oLen .sl (.c tl) .leaf [] h' = .val (.int .i64 (ts.length : Int)) h' := by
  intro h'
  rcases c5 with ⟨rfl, rfl⟩ | ⟨id, cc, s, cap, rfl, _⟩
  ·rfl
  ·exact zHb
 have e0 : (AV.str 0 0) = sv [] := rfl
 refine zAc ?_
 refine zAc (zAb fun Q1 hQ => ?_)
 simp (disch := omega) only [EL, ↓K3, ↓K1, reduceIte, Nat.reduceEqDiff, Nat.reduceAdd, Nat.reduceLeDiff, i0, c0, c1, c2, c3, ltl]
 refine hQ _ ?_
 clear hQ Q1
 refine wc_if (ts.length ≤ i) (by simp (disch := omega) only [EL, ↓K3, ↓K1, reduceIte, Nat.reduceEqDiff, Nat.reduceAdd, Nat.reduceLeDiff]) (fun hge => ?_) (fun hlt => ?_)
 ·refine zAc (zAb fun Q1 hQ => ?_)
  simp (disch := omega) only [EL, ↓K3, ↓K1, reduceIte, Nat.reduceEqDiff, Nat.reduceAdd, Nat.reduceLeDiff, i0, c0, c1, c2, c3, e0, g1]
  refine hQ _ ?_
  clear hQ Q1
  refine zAk ?_
  try simp only [zAg, zAf]
  refine zA3 (id := h.next) (by simp (disch := omega) only [EL, ↓K3, ↓K1, reduceIte, Nat.reduceEqDiff, Nat.reduceAdd, Nat.reduceLeDiff]) AH.get_set (lst := [.int .i64 ((0 : Nat) : Int), sv [], .int .i64 (en : Int)]) (by simp (disch := omega) only [EL, ↓K3, ↓K1, reduceIte, Nat.reduceEqDiff, Nat.reduceAdd, Nat.reduceLeDiff, zAe, e0]) ?_
  rw [zEa (by omega)]
  exact ⟨rfl, m1.set (Nat.le_refl _) _⟩
 ·refine zAo ?_
  have hlt : i < ts.length := by omega
  rcases c5 with ⟨rfl, _⟩ | ⟨id, cc, s, cap, rfl, hid, gt, ct⟩
  ·cases hlt
  obtain ⟨ct1, ct2, ct3⟩ := ct i hlt
  refine zAc (zAb fun Q1 hQ => ?_)
  simp (disch := omega) only [EL, ↓K3, ↓K1, reduceIte, Nat.reduceEqDiff, Nat.reduceAdd, Nat.reduceLeDiff, i0, c0, c1, c2, c3, e0, g1, gt, ct1, ct2, ct3, zAe]
  refine hQ _ ?_
  clear hQ Q1
  refine zAk ?_
  try simp only [zAg, zAf]
  refine zA3 (id := h.next) (by simp (disch := omega) only [EL, ↓K3, ↓K1, reduceIte, Nat.reduceEqDiff, Nat.reduceAdd, Nat.reduceLeDiff]) AH.get_set (lst := [.int .i64 (ts[i].kind : Int), sv ts[i].text, .int .i64 (ts[i].pos : Int)]) (by simp (disch := omega) only [EL, ↓K3, ↓K1, reduceIte, Nat.reduceEqDiff, Nat.reduceAdd, Nat.reduceLeDiff, zAe, e0]) ?_
  rw [zKd hlt]
  exact ⟨rfl, m1.set (Nat.le_refl _) _⟩
include H in
theorem ahead_gp (R : RS ts en h r i d) : GP tab 155 [.ptr r 0] h fun v h1 => v = tokV (now ts en (i + 1)) ∧ More h h1 := by
 have i0 : zAh [.ptr r 0] = zAd [.ptr r 0] := rfl
 have ln := R.ln
 have hlen := R.le
 have hen := R.hen
 refine GE.gp (ge_of H.t155 rfl ?_) (E := fun _ _ => False) fun _ _ => id
 refine zBc fun h1 n1 g1 m1 => ?_
 have R1 := R.more m1
 obtain ⟨_, _, _, _, _, _, c, tl, c0, c1, c2, c3, c4, c5⟩ := R1
 have ltl : ∀ h', oLen .sl (.c tl) .leaf [] h' = .val (.int .i64 (ts.length : Int)) h' := by
  intro h'
  rcases c5 with ⟨rfl, rfl⟩ | ⟨id, cc, s, cap, rfl, _⟩
  ·rfl
  ·exact zHb
 have e0 : (AV.str 0 0) = sv [] := rfl
 refine zAc ?_
 refine zAc (zAb fun Q1 hQ => ?_)
 simp (disch := omega) only [EL, ↓K3, ↓K1, reduceIte, Nat.reduceEqDiff, Nat.reduceAdd, Nat.reduceLeDiff, i0, c0, c1, c2, c3, ltl]
 refine hQ _ ?_
 clear hQ Q1
 refine wc_if (ts.length ≤ i + 1) (by simp (disch := omega) only [EL, ↓K3, ↓K1, reduceIte, Nat.reduceEqDiff, Nat.reduceAdd, Nat.reduceLeDiff]) (fun hge => ?_) (fun hlt => ?_)
 ·refine zAc (zAb fun Q1 hQ => ?_)
  simp (disch := omega) only [EL, ↓K3, ↓K1, reduceIte, Nat.reduceEqDiff, Nat.reduceAdd, Nat.reduceLeDiff, i0, c0, c1, c2, c3, e0, g1]
  refine hQ _ ?_
  clear hQ Q1
  refine zAk ?_
  try simp only [zAg, zAf]
  refine zA3 (id := h.next) (by simp (disch := omega) only [EL, ↓K3, ↓K1, reduceIte, Nat.reduceEqDiff, Nat.reduceAdd, Nat.reduceLeDiff]) AH.get_set (lst := [.int .i64 ((0 : Nat) : Int), sv [], .int .i64 (en : Int)]) (by simp (disch := omega) only [EL, ↓K3, ↓K1, reduceIte, Nat.reduceEqDiff, Nat.reduceAdd, Nat.reduceLeDiff, zAe, e0]) ?_
  rw [zEa (by omega)]
  exact ⟨rfl, m1.set (Nat.le_refl _) _⟩
 ·refine zAo ?_
  have hlt : i + 1 < ts.length := by omega
  rcases c5 with ⟨rfl, _⟩ | ⟨id, cc, s, cap, rfl, hid, gt, ct⟩
  ·cases hlt
  obtain ⟨ct1, ct2, ct3⟩ := ct (i + 1) hlt
  refine zAc (zAb fun Q1 hQ => ?_)
  simp (disch := omega) only [EL, ↓K3, ↓K1, reduceIte, Nat.reduceEqDiff, Nat.reduceAdd, Nat.reduceLeDiff, i0, c0, c1, c2, c3, e0, g1, gt, ct1, ct2, ct3, zAe]
  refine hQ _ ?_
  clear hQ Q1
  refine zAk ?_
  try simp only [zAg, zAf]
  refine zA3 (id := h.next) (by simp (disch := omega) only [EL, ↓K3, ↓K1, reduceIte, Nat.reduceEqDiff, Nat.reduceAdd, Nat.reduceLeDiff]) AH.get_set (lst := [.int .i64 (ts[i + 1].kind : Int), sv ts[i + 1].text, .int .i64 (ts[i + 1].pos : Int)]) (by simp (disch := omega) only [EL, ↓K3, ↓K1, reduceIte, Nat.reduceEqDiff, Nat.reduceAdd, Nat.reduceLeDiff, zAe, e0]) ?_
  rw [zKd hlt]
  exact ⟨rfl, m1.set (Nat.le_refl _) _⟩
include H in
theorem is_gp (R : RS ts en h r i d) (s : Str) : GP tab 96 [.ptr r 0, sv s] h fun v h1 => v = .bool (isT ts en s i) ∧ More h h1 := by
 have i0 : zAh [.ptr r 0, sv s] = zAd [.ptr r 0, sv s] := rfl
 refine GE.gp (ge_of H.t96 rfl ?_) (E := fun _ _ => False) fun _ _ => id
 refine zAc (zAb fun Q1 hQ => ?_)
 simp (disch := omega) only [EL, ↓K3, ↓K1, reduceIte, Nat.reduceEqDiff, Nat.reduceAdd, Nat.reduceLeDiff, i0]
 refine hQ _ ?_
 clear hQ Q1
 refine zAc (zAb fun Q1 hQ => ?_)
 simp (disch := omega) only [EL, ↓K3, ↓K1, reduceIte, Nat.reduceEqDiff, Nat.reduceAdd, Nat.reduceLeDiff, i0]
 refine (zG8 H R).to fun v h1 q => ?_
 obtain ⟨rfl, m1⟩ := q
 have e0 : (AV.str 0 0) = sv [] := rfl
 simp (disch := omega) only [EL, ↓K3, ↓K1, reduceIte, Nat.reduceEqDiff, Nat.reduceAdd, Nat.reduceLeDiff, tokV, e0, i0]
 refine hQ _ ?_
 clear hQ Q1
 refine zDc fun h2 n2 g2 m2 => ?_
 obtain ⟨c, g2, k0, k1, k2⟩ := g2
 simp only [zAa]
 refine zAc (zAb fun Q1 hQ => ?_)
 by_cases ht : (now ts en i).text = s
 ·by_cases hk : (now ts en i).kind = 2
  ·simp (disch := omega) only [↓zEo, ↓zEp, reduceIte, Nat.reduceEqDiff, Nat.reduceAdd, Nat.reduceLeDiff, Nat.succ_eq_add_one, zId, zEn, EE, i0, g2, k0, k1, k2, ht, hk]
   refine hQ _ ?_
   refine zAk ?_
   simp (disch := omega) only [EL, ↓K3, ↓K1, reduceIte, Nat.reduceEqDiff, Nat.reduceAdd, Nat.reduceLeDiff]
   refine ⟨?_, m1.trans m2⟩
   unfold isT; simp [ht, hk]
  ·have hk' : ¬ ((now ts en i).kind : Int) = ((2 : Nat) : Int) := by omega
   simp (disch := omega) only [↓zEo, ↓zEp, reduceIte, Nat.reduceEqDiff, Nat.reduceAdd, Nat.reduceLeDiff, Nat.succ_eq_add_one, zId, zEn, EE, i0, g2, k0, k1, k2, ht, hk']
   refine hQ _ ?_
   refine zAk ?_
   simp (disch := omega) only [EL, ↓K3, ↓K1, reduceIte, Nat.reduceEqDiff, Nat.reduceAdd, Nat.reduceLeDiff]
   refine ⟨?_, m1.trans m2⟩
   unfold isT; simp [ht, hk]
 ·simp (disch := omega) only [↓zEo, ↓zEp, reduceIte, Nat.reduceEqDiff, Nat.reduceAdd, Nat.reduceLeDiff, Nat.succ_eq_add_one, zId, zEn, EE, i0, g2, k0, k1, k2, ht]
  refine hQ _ ?_
  refine zAk ?_
  simp (disch := omega) only [EL, ↓K3, ↓K1, reduceIte, Nat.reduceEqDiff, Nat.reduceAdd, Nat.reduceLeDiff]
  refine ⟨?_, m1.trans m2⟩
  unfold isT; simp [ht]
end
end Go.Ev
namespace Go.Ev
open Go Go.Pa
set_option linter.unusedSimpArgs false
set_option linter.unusedVariables false
set_option maxRecDepth 100000
set_option maxHeartbeats 4000000
section
variable {tab : Nat → Option AFunc} {h : AH} (H : PT tab) {ts : List Tok} {en r i d : Nat}
include H in
theorem zEc (R : RS ts en h r i d) : GE tab 73 [.ptr r 0] h (fun _ _ => False) (fun v h1 => v = stopV (now ts en i).pos 1 ∧ More h h1) := by
 have i0 : zAh [.ptr r 0] = zAd [.ptr r 0] := rfl
 refine ge_of H.t73 rfl (zAb fun Q1 hQ => ?_)
 simp (disch := omega) only [EL, ↓K3, ↓K1, reduceIte, Nat.reduceEqDiff, Nat.reduceAdd, Nat.reduceLeDiff, i0]
 refine (zG8 H R).to fun v h1 q => ?_
 obtain ⟨rfl, m1⟩ := q
 have f2 : ∀ h', zCi 2 1 false (.c (tokV (now ts en i))) .leaf [] h' = .val (.int .i64 ((now ts en i).pos : Int)) h' := fun _ => rfl
 simp (disch := omega) only [EL, ↓K3, ↓K1, reduceIte, Nat.reduceEqDiff, Nat.reduceAdd, Nat.reduceLeDiff, i0, f2]
 refine hQ _ ?_
 exact ⟨rfl, m1⟩
include H in
theorem zB5 (R : RS ts en h r i d) (hi : i < ts.length) : GP tab 102 [.ptr r 0] h fun v h1 => v = tokV (now ts en i) ∧ RS ts en h1 r (i + 1) d ∧ MoreBut r h h1 := by
 have i0 : zAh [.ptr r 0] = zAd [.ptr r 0] := rfl
 have ln := R.ln
 refine GE.gp (ge_of H.t102 rfl ?_) (E := fun _ _ => False) fun _ _ => id
 refine zBc fun h1 n1 g1 m1 => ?_
 have R1 := R.more m1
 refine zAc (zAb fun Q1 hQ => ?_)
 simp (disch := omega) only [EL, ↓K3, ↓K1, reduceIte, Nat.reduceEqDiff, Nat.reduceAdd, Nat.reduceLeDiff, i0]
 refine (zG8 H R1).to fun v h2 q => ?_
 obtain ⟨rfl, m2⟩ := q
 simp (disch := omega) only [EL, ↓K3, ↓K1, reduceIte, Nat.reduceEqDiff, Nat.reduceAdd, Nat.reduceLeDiff, i0]
 refine hQ _ ?_
 clear hQ Q1
 refine zDc fun h3 n3 g3 m3 => ?_
 obtain ⟨c3, g3, k0, k1, k2⟩ := g3
 simp only [zAa]
 have m13 : More h1 h3 := m2.trans m3
 have R3 := R1.more m13
 have g1' := (m13.keep h.next (by omega)).trans g1
 have lt3 := R3.lt
 have n13 := m13.next
 have hr1 := R.lt
 have n2 := m2.next
 obtain ⟨_, _, _, _, _, _, c, tl, c0, c1, c2, c3', c4, c5⟩ := id R3
 refine zAc (zAb fun Q1 hQ => ?_)
 simp (disch := omega) only [EL, ↓K3, ↓K1, reduceIte, Nat.reduceEqDiff, Nat.reduceAdd, Nat.reduceLeDiff, i0, c0, c2]
 refine hQ _ ?_
 clear hQ Q1
 have R4 := R3.putI hi c0
 have g4 : (h3.set r (.cells (T.put (some (.int .i64 ((i + 1 : Nat) : Int))) c 1) 4 none false)).mem.get h.next = h3.mem.get h.next := by rw [AH.set_mem, T.get_put_ne _ _ _ _ (by omega)]
 have g5 : (h3.set r (.cells (T.put (some (.int .i64 ((i + 1 : Nat) : Int))) c 1) 4 none false)).mem.get h2.next = h3.mem.get h2.next := by rw [AH.set_mem, T.get_put_ne _ _ _ _ (by omega)]
 have b4 : MoreBut r h (h3.set r (.cells (T.put (some (.int .i64 ((i + 1 : Nat) : Int))) c 1) 4 none false)) := ((m1.trans m13).but r).set _
 generalize (h3.set r (.cells (T.put (some (.int .i64 ((i + 1 : Nat) : Int))) c 1) 4 none false)) = h4 at *
 rw [g1'] at g4
 rw [g3] at g5
 have e0 : (AV.str 0 0) = sv [] := rfl
 refine zAc (zAb fun Q1 hQ => ?_)
 simp (disch := omega) only [EL, ↓K3, ↓K1, reduceIte, Nat.reduceEqDiff, Nat.reduceAdd, Nat.reduceLeDiff, i0, g4, g5, k0, k1, k2, zAe, e0]
 refine hQ _ ?_
 clear hQ Q1
 refine zAk ?_
 try simp only [zAg, zAf]
 refine zA3 (id := h.next) (by simp (disch := omega) only [EL, ↓K3, ↓K1, reduceIte, Nat.reduceEqDiff, Nat.reduceAdd, Nat.reduceLeDiff]) AH.get_set (lst := [.int .i64 ((now ts en i).kind : Int), sv (now ts en i).text, .int .i64 ((now ts en i).pos : Int)]) (by simp (disch := omega) only [EL, ↓K3, ↓K1, reduceIte, Nat.reduceEqDiff, Nat.reduceAdd, Nat.reduceLeDiff, zAe, e0]) ?_
 exact ⟨rfl, R4.seto (by omega) _, b4.seto (Nat.le_refl _) _⟩
include H in
theorem zDl (R : RS ts en h r i d) (s : Str) : GP tab 70 [.ptr r 0, sv s] h fun v h1 => v = .bool (isT ts en s i) ∧ RS ts en h1 r (if isT ts en s i then i + 1 else i) d ∧ MoreBut r h h1 := by
 have i0 : zAh [.ptr r 0, sv s] = zAd [.ptr r 0, sv s] := rfl
 have ln := R.ln
 refine GE.gp (ge_of H.t70 rfl ?_) (E := fun _ _ => False) fun _ _ => id
 refine zAc (zAb fun Q1 hQ => ?_)
 simp (disch := omega) only [EL, ↓K3, ↓K1, reduceIte, Nat.reduceEqDiff, Nat.reduceAdd, Nat.reduceLeDiff, i0]
 refine hQ _ ?_
 clear hQ Q1
 refine zAc ?_
 refine zAc (zAb fun Q1 hQ => ?_)
 simp (disch := omega) only [EL, ↓K3, ↓K1, reduceIte, Nat.reduceEqDiff, Nat.reduceAdd, Nat.reduceLeDiff, i0]
 refine (is_gp H R s).to fun v h1 q => ?_
 obtain ⟨rfl, m1⟩ := q
 simp (disch := omega) only [EL, ↓K3, ↓K1, reduceIte, Nat.reduceEqDiff, Nat.reduceAdd, Nat.reduceLeDiff, i0]
 refine hQ _ ?_
 clear hQ Q1
 simp only [zAa]
 have R1 := R.more m1
 cases hc : isT ts en s i with
 | false =>
  refine zAq (by simp (disch := omega) only [EL, ↓K3, ↓K1, reduceIte, Nat.reduceEqDiff, Nat.reduceAdd, Nat.reduceLeDiff, hc, Bool.not_false]) ?_
  refine zAc (zAb fun Q1 hQ => ?_)
  simp (disch := omega) only [EL, ↓K3, ↓K1, reduceIte, Nat.reduceEqDiff, Nat.reduceAdd, Nat.reduceLeDiff, i0]
  refine hQ _ ?_
  clear hQ Q1
  refine zAk ?_
  simp (disch := omega) only [EL, ↓K3, ↓K1, reduceIte, Nat.reduceEqDiff, Nat.reduceAdd, Nat.reduceLeDiff]
  exact ⟨R1, m1.but r⟩
 | true =>
  refine wc_no (by simp (disch := omega) only [EL, ↓K3, ↓K1, reduceIte, Nat.reduceEqDiff, Nat.reduceAdd, Nat.reduceLeDiff, hc, Bool.not_true]) ?_
  refine zAo ?_
  have hi := is_lt hc
  obtain ⟨_, _, _, _, _, _, c, tl, c0, c1, c2, c3', c4, c5⟩ := id R1
  refine zAc (zAb fun Q1 hQ => ?_)
  simp (disch := omega) only [EL, ↓K3, ↓K1, reduceIte, Nat.reduceEqDiff, Nat.reduceAdd, Nat.reduceLeDiff, i0, c0, c2]
  refine hQ _ ?_
  clear hQ Q1
  have R4 := R1.putI hi c0
  have b4 : MoreBut r h (h1.set r (.cells (T.put (some (.int .i64 ((i + 1 : Nat) : Int))) c 1) 4 none false)) := (m1.but r).set _
  generalize (h1.set r (.cells (T.put (some (.int .i64 ((i + 1 : Nat) : Int))) c 1) 4 none false)) = h4 at *
  refine zAc (zAb fun Q1 hQ => ?_)
  simp (disch := omega) only [EL, ↓K3, ↓K1, reduceIte, Nat.reduceEqDiff, Nat.reduceAdd, Nat.reduceLeDiff, i0]
  refine hQ _ ?_
  clear hQ Q1
  refine zAk ?_
  simp (disch := omega) only [EL, ↓K3, ↓K1, reduceIte, Nat.reduceEqDiff, Nat.reduceAdd, Nat.reduceLeDiff]
  exact ⟨R4, b4⟩
include H in
theorem zBi (R : RS ts en h r i d) (s : Str) : GS tab 75 [.ptr r 0, sv s] ts en r i d h (zA7 ts en s i d) fun p v _ => v = .int .i64 (p : Int) := by
 intro y hy hne
 have i0 : zAh [.ptr r 0, sv s] = zAd [.ptr r 0, sv s] := rfl
 refine ge_of H.t75 rfl ?_
 refine zAc (zAb fun Q1 hQ => ?_)
 simp (disch := omega) only [EL, ↓K3, ↓K1, reduceIte, Nat.reduceEqDiff, Nat.reduceAdd, Nat.reduceLeDiff, i0]
 refine hQ _ ?_
 clear hQ Q1
 refine zAc ?_
 refine zAc (zAb fun Q1 hQ => ?_)
 simp (disch := omega) only [EL, ↓K3, ↓K1, reduceIte, Nat.reduceEqDiff, Nat.reduceAdd, Nat.reduceLeDiff, i0]
 refine (is_gp H R s).to fun v h1 q => ?_
 obtain ⟨rfl, m1⟩ := q
 simp (disch := omega) only [EL, ↓K3, ↓K1, reduceIte, Nat.reduceEqDiff, Nat.reduceAdd, Nat.reduceLeDiff, i0]
 refine hQ _ ?_
 clear hQ Q1
 simp only [zAa]
 have R1 := R.more m1
 unfold zA7 at hy
 cases hc : isT ts en s i with
 | false =>
  rw [hc] at hy
  refine zAq (by simp (disch := omega) only [EL, ↓K3, ↓K1, reduceIte, Nat.reduceEqDiff, Nat.reduceAdd, Nat.reduceLeDiff, hc, Bool.not_false]) ?_
  refine zAb fun Q1 hQ => ?_
  simp (disch := omega) only [EL, ↓K3, ↓K1, reduceIte, Nat.reduceEqDiff, Nat.reduceAdd, Nat.reduceLeDiff, i0]
  refine (zEc H R1).mono (fun v h2 q => q.elim) fun v h2 q => ?_
  refine hQ _ ?_
  exact ⟨_, _, hy.symm, q.1, (m1.trans q.2).but r⟩
 | true =>
  rw [hc] at hy
  refine wc_no (by simp (disch := omega) only [EL, ↓K3, ↓K1, reduceIte, Nat.reduceEqDiff, Nat.reduceAdd, Nat.reduceLeDiff, hc, Bool.not_true]) ?_
  refine zAo ?_
  refine zAc (zAb fun Q1 hQ => ?_)
  simp (disch := omega) only [EL, ↓K3, ↓K1, reduceIte, Nat.reduceEqDiff, Nat.reduceAdd, Nat.reduceLeDiff, i0]
  refine (zB5 H R1 (is_lt hc)).to fun v h2 q => ?_
  obtain ⟨rfl, R2, b2⟩ := q
  have f2 : ∀ h', zCi 2 1 false (.c (tokV (now ts en i))) .leaf [] h' = .val (.int .i64 ((now ts en i).pos : Int)) h' := fun _ => rfl
  simp (disch := omega) only [EL, ↓K3, ↓K1, reduceIte, Nat.reduceEqDiff, Nat.reduceAdd, Nat.reduceLeDiff, i0, f2]
  refine hQ _ ?_
  refine zAk ?_
  simp (disch := omega) only [EL, ↓K3, ↓K1, reduceIte, Nat.reduceEqDiff, Nat.reduceAdd, Nat.reduceLeDiff]
  exact ⟨_, _, hy.symm, by omega, R2, (m1.but r).trans b2, rfl⟩
include H in
theorem zGq (R : RS ts en h r i d) : GS tab 98 [.ptr r 0] ts en r i d h (wordS ts en i d) fun t v _ => v = tokV t ∧ t.text.length ≤ 1000000 := by
 intro y hy hne
 have i0 : zAh [.ptr r 0] = zAd [.ptr r 0] := rfl
 refine ge_of H.t98 rfl ?_
 refine zBc fun h1 n1 g1 m1 => ?_
 have R1 := R.more m1
 refine zAc ?_
 refine zAc (zAb fun Q1 hQ => ?_)
 simp (disch := omega) only [EL, ↓K3, ↓K1, reduceIte, Nat.reduceEqDiff, Nat.reduceAdd, Nat.reduceLeDiff, i0]
 refine (zG8 H R1).to fun v h2 q => ?_
 obtain ⟨rfl, m2⟩ := q
 have f0 : ∀ h', zCi 0 1 false (.c (tokV (now ts en i))) .leaf [] h' = .val (.int .i64 ((now ts en i).kind : Int)) h' := fun _ => rfl
 simp (disch := omega) only [EL, ↓K3, ↓K1, reduceIte, Nat.reduceEqDiff, Nat.reduceAdd, Nat.reduceLeDiff, i0, f0]
 refine hQ _ ?_
 clear hQ Q1
 simp only [zAa]
 have R2 := R1.more m2
 have g2 := (m2.keep h.next (by omega)).trans g1
 unfold wordS at hy
 by_cases hk : (now ts en i).kind = 1
 ·rw [if_pos hk] at hy
  have hi : i < ts.length := by
   rcases Nat.lt_or_ge i ts.length with h | h
   ·exact h
   ·rw [zEa (by omega)] at hk; cases hk
  refine wc_no (by simp (disch := omega) only [EL, ↓K3, ↓K1, reduceIte, Nat.reduceEqDiff, Nat.reduceAdd, Nat.reduceLeDiff, hk, Bool.not_true]) ?_
  refine zAo ?_
  refine zAc (zAb fun Q1 hQ => ?_)
  simp (disch := omega) only [EL, ↓K3, ↓K1, reduceIte, Nat.reduceEqDiff, Nat.reduceAdd, Nat.reduceLeDiff, i0]
  refine (zB5 H R2 hi).to fun v h3 q => ?_
  obtain ⟨rfl, R3, b3⟩ := q
  have g3 := (b3.keep h.next (by have := m2.next; omega) (by have := R.lt; omega)).trans g2
  have e0 : (AV.str 0 0) = sv [] := rfl
  simp (disch := omega) only [EL, ↓K3, ↓K1, reduceIte, Nat.reduceEqDiff, Nat.reduceAdd, Nat.reduceLeDiff, i0, g3, e0]
  refine hQ _ ?_
  refine zAk ?_
  try simp only [zAg, zAf]
  refine zA3 (id := h.next) (by simp (disch := omega) only [EL, ↓K3, ↓K1, reduceIte, Nat.reduceEqDiff, Nat.reduceAdd, Nat.reduceLeDiff]) AH.get_set (lst := [.int .i64 ((now ts en i).kind : Int), sv (now ts en i).text, .int .i64 ((now ts en i).pos : Int)]) (by simp (disch := omega) only [EL, ↓K3, ↓K1, reduceIte, Nat.reduceEqDiff, Nat.reduceAdd, Nat.reduceLeDiff, zAe, e0]) ?_
  exact ⟨_, _, hy.symm, by omega, R3.seto R.lt _, (((m1.trans m2).but r).trans b3).seto (Nat.le_refl _) _, rfl, R.txt i⟩
 ·rw [if_neg hk] at hy
  have hk' : ¬ ((now ts en i).kind : Int) = ((1 : Nat) : Int) := by omega
  refine zAq (by simp (disch := omega) only [EL, ↓K3, ↓K1, reduceIte, Nat.reduceEqDiff, Nat.reduceAdd, Nat.reduceLeDiff, hk', hk, Bool.not_false]) ?_
  refine zAb fun Q1 hQ => ?_
  simp (disch := omega) only [EL, ↓K3, ↓K1, reduceIte, Nat.reduceEqDiff, Nat.reduceAdd, Nat.reduceLeDiff, i0]
  refine (zEc H R2).mono (fun v h2 q => q.elim) fun v h3 q => ?_
  refine hQ _ ?_
  exact ⟨_, _, hy.symm, q.1, ((m1.trans m2).trans q.2).but r⟩
end
end Go.Ev
