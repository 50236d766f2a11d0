/- CoVA VaT VaD VaW1 VaS VaW2 VaW3 -/
import Derived.Test.YticonknioobdjaaGreatPE
set_option linter.unusedSimpArgs false
set_option linter.unusedVariables false
set_option linter.unusedSectionVars false
set_option linter.defProp false
set_option maxRecDepth 100000
set_option maxHeartbeats 4000000
namespace Go.Ev
noncomputable def af8:AFunc:=.mk 4 (sq ([o2 (.box k0) 5,mc (.bool false) 20])
 (.seq (sq ([o1 (cf 19 []),o2 (.not u0) 4])
 (.cond k4 (sq ([mc (.bool false) 20])
 .ret) .skip))
 (.seq (sq ([o1 (lN 3 k5),o1 (cf 20 [u0]),m0,o3 (.move k1) 0 false,o3 (ll u0) 1 false,o3 (gt u0 (.c (iz 100))) 2 false,o1 (pk u3 (.c (.bool true)) u0),m0,o3 (.move k2) 0 false,o3 (ls u0 (.c (iz 0))) 1 false,o1 (pk u2 (.c (.bool true)) u0),m0,o3 (.move k2) 0 false,o3 (gt u0 (.c (iz 150))) 1 false,o1 (pk u2 (.c (.bool true)) u0),m0,o3 (lN 3 k5) 0 false,o3 (cf 16 [u0]) 1 false,o3 (.not u0) 2 false,o2 (pk u3 (.c (.bool true)) u0) 6])
 (.cond k6 (sq ([mc (.bool true) 20])
 .ret) .skip))
 (sq ([o1 (lN 3 k5),ml 1,ml 2,o1 (cf 21 [u2,u1,u0]),m0,ox 0,ox 1,ox 2,o2 (.alloc [.nils,(iz 0),(iz 0),(iz 0),(iz 0)]) 9,mt 3 8,o1 (st 5 u1 u3),mt 3 7])
 (.seq (sq ([ml 7,o1 (nn u0 (.c (iz 0))),m0,o3 (.move k8) 0 false,o3 (ll u0) 1 false,o3 (fa 0 k9) 2 false,o3 (ld u0) 3 false,o3 (ll u0) 4 false,o3 (nn u3 u0) 5 false,o2 (pk u6 (.c (.bool true)) u0) 10])
 (.cond k10 (sq ([mc (.bool false) 20])
 .ret) .skip))
 (.seq (sq ([mc (iz 0) 11])
 (.block 0 (.loop (.seq (sq ([ml 11,ml 8,o1 (ll u0),o2 (ls u2 u0) 12])
 (.cond k12 .skip (.exit 0)))
 (.seq (.block 1 (.seq (sq ([ml 8,ml 11,o1 (ia 4 u1 u0),o1 (fa 0 u0),o1 (ld u0),o1 (fa 0 k9),o1 (ld u0),ml 11,o1 (ia 1 u1 u0),o1 (ld u0),o1 (nn u5 u0),m0,o3 (.move k8) 0 false,o3 (.move k11) 1 false,o3 (ia 4 u1 u0) 2 false,o3 (fa 1 u0) 3 false,o3 (ld u0) 4 false,o3 (ls u0 (.c (iz 1))) 5 false,o1 (pk u6 (.c (.bool true)) u0),m0,o3 (.move k8) 0 false,o3 (.move k11) 1 false,o3 (ia 4 u1 u0) 2 false,o3 (fa 1 u0) 3 false,o3 (ld u0) 4 false,o3 (fa 3 k9) 5 false,o3 (ld u0) 6 false,o3 (gt u2 u0) 7 false,o1 (pk u8 (.c (.bool true)) u0),m0,o3 (.move k8) 0 false,o3 (.move k11) 1 false,o3 (ia 4 u1 u0) 2 false,o3 (fa 2 u0) 3 false,o3 (ld u0) 4 false,o3 (fa 4 k9) 5 false,o3 (ld u0) 6 false,o3 (gt u2 u0) 7 false,o2 (pk u8 (.c (.bool true)) u0) 13])
 (.cond k13 (sq ([mc (.bool false) 20])
 .ret) .skip))
 (.seq (sq ([ml 11,o1 (gt u0 (.c (iz 0))),m0,o3 (.move k8) 0 true,o3 (.move k11) 1 true,o3 (ia 4 u1 u0) 2 true,o3 (fa 1 u0) 3 true,o3 (ld u0) 4 true,o3 (.move k8) 5 true,o3 (.move k11) 6 true,o3 (sb u0 (.c (iz 1))) 7 true,o3 (ia 4 u2 u0) 8 true,o3 (fa 1 u0) 9 true,o3 (ld u0) 10 true,o3 (le u6 u0) 11 true,o3 (.move u0) 12 true,o3 (.move k8) 0 false,o3 (.move k11) 1 false,o3 (ia 4 u1 u0) 2 false,o3 (fa 2 u0) 3 false,o3 (ld u0) 4 false,o3 (.move k8) 5 false,o3 (.move k11) 6 false,o3 (sb u0 (.c (iz 1))) 7 false,o3 (ia 4 u2 u0) 8 false,o3 (fa 2 u0) 9 false,o3 (ld u0) 10 false,o3 (ls u6 u0) 11 false,o3 (pk u12 (.c (.bool true)) u0) 25 true,o3 (.move u0) 26 true,o3 (.move k8) 0 false,o3 (.move k11) 1 false,o3 (ia 4 u1 u0) 2 false,o3 (fa 3 u0) 3 false,o3 (ld u0) 4 false,o3 (.move k8) 5 false,o3 (.move k11) 6 false,o3 (sb u0 (.c (iz 1))) 7 false,o3 (ia 4 u2 u0) 8 false,o3 (fa 3 u0) 9 false,o3 (ld u0) 10 false,o3 (ls u6 u0) 11 false,o3 (pk u12 (.c (.bool true)) u0) 39 true,o2 (pk u40 u0 (.c (.bool false))) 14])
 (.cond k14 (sq ([mc (.bool false) 20])
 .ret) .skip))
 (sq ([o1 (lN 3 k5),ml 1,ml 8,ml 11,o1 (ia 4 u1 u0),o1 (fa 1 u0),o1 (ld u0),o2 (.alloc [.nils,(iz 0),(iz 0),(iz 0),(iz 0)]) 15,o1 (cf 11 [u7,u6,u1]),m0,ox 0,ox 1,ox 2,o1 (st 5 u5 u2),o1 (.move u2),o1 (.move u2)])
 (sq ([o1 (lN 3 k5),ml 1,ml 8,ml 11,o1 (ia 4 u1 u0),o1 (fa 1 u0),o1 (ld u0),o1 (sb u0 (.c (iz 1))),o2 (.alloc [.nils,(iz 0),(iz 0),(iz 0),(iz 0)]) 16,o1 (cf 11 [u8,u7,u1]),m0,ox 0,ox 1,ox 2,o1 (st 5 u5 u2),o1 (.move u2),o1 (.move u2)])
 (sq ([o1 (fa 0 k15),o1 (ld u0),o1 (ll u0),ml 11,o1 (ad u0 (.c (iz 1))),o1 (nn u2 u0),m0,o3 (fa 0 k16) 0 false,o3 (ld u0) 1 false,o3 (ll u0) 2 false,o3 (.move k11) 3 false,o3 (nn u1 u0) 4 false,o1 (pk u5 (.c (.bool true)) u0),m0,o3 (fa 4 k15) 0 false,o3 (ld u0) 1 false,o3 (.move k8) 2 false,o3 (.move k11) 3 false,o3 (ia 4 u1 u0) 4 false,o3 (fa 2 u0) 5 false,o3 (ld u0) 6 false,o3 (nn u5 u0) 7 false,o2 (pk u8 (.c (.bool true)) u0) 17])
 (.cond k17 (sq ([mc (.bool false) 20])
 .ret) .skip)))))))
 (.ops [ml 11,o1 (ad u0 (.c (iz 1))),mt 0 11]))))))
 (sq ([o1 (lN 3 k5),ml 1,ml 3,o1 (.convI .u64 u0),ml 2,o1 (ad u0 (.c (iz 1))),o1 (.convI .u64 u0),o1 (.bin .rem u3 u0),o1 (.convI .i64 u0),o2 (.alloc [.nils,(iz 0),(iz 0),(iz 0),(iz 0)]) 19,o1 (cf 21 [u9,u8,u1]),m0,ox 0,ox 1,ox 2,mt 2 18,o1 (st 5 u6 u2),o1 (.move u2)])
 (sq ([ml 18,ml 8,o1 (cf 23 [u1,u0]),m0,o3 (fa 0 k19) 0 true,o3 (ld u0) 1 true,o3 (fa 0 k9) 2 true,o3 (ld u0) 3 true,o3 (cf 17 [u2,u0]) 4 true,o1 (pk u5 u0 (.c (.bool false))),mt 0 20])
 .ret)))))))) [.val k20]
noncomputable def af11:AFunc:=.mk 3 (sq ([o2 (.box k0) 3,o2 (.alloc [.nils,(iz 0),(iz 0),(iz 0),(iz 0)]) 4,mc (iz 0) 5,mc (iz 0) 6])
 (sq ([o1 (lN 3 k3),ml 1,ml 2,o1 (cf 25 [u2,u1,u0,(.c .nilf)]),ox 0,ox 1,ox 2,o1 (st 5 k4 u2),mt 2 5,mt 2 6])
 .ret)) [.cellN 5 k4,.val k5,.val k6]
noncomputable def af16:AFunc:=.mk 1 (sq ([o2 (.box k0) 1,mc (.bool false) 9])
 (.seq (sq ([o1 (lN 3 k1),o1 (cf 35 [u0]),o2 (.not u0) 2])
 (.cond k2 (sq ([mc (.bool false) 9])
 .ret) .skip))
 (.seq (sq ([o1 (fa 2 k1),o2 (ld u0) 6,o2 (ll u0) 4,mc (iz 0) 3])
 (.block 0 (.loop (sq ([o2 (ls k3 k4) 5])
 (.seq (.cond k5 .skip (.exit 0))
 (.seq (.block 1 (sq ([o1 (ia 6 k6 k3),o1 (lN 6 u0),o2 (.alloc [(.str 0 0),.nils,(.str 0 0),.nils,.nils,.nils]) 7,o1 (st 6 u0 u1)])
 (sq ([o1 (lN 3 k1),o1 (lN 6 k7),o1 (.build [.nils,.nils,.nils,(.str 0 0),.nils,(.str 0 0),.nils,.nils,.nils,.nils,.nils,.nils,.nils] [(.mk 0 3 u1),(.mk 3 6 u0)]),o1 (.box u0),o1 (cf 36 [u0]),o2 (.not u0) 8])
 (.cond k8 (sq ([mc (.bool false) 9])
 .ret) .skip))))
 (.ops [o1 (ad k3 (.c (iz 1))),mt 0 3])))))))
 (sq ([mc (.bool true) 9])
 .ret)))) [.val k9]
noncomputable def af17:AFunc:=.mk 2 (sq ([mc (.bool false) 2])
 (sq ([ml 0,o1 (ll u0),ml 1,o1 (ll u0),o1 (le u2 u0),m0,o3 (.move k0) 0 true,o3 (.move k1) 1 true,o3 (.move k0) 2 true,o3 (ll u0) 3 true,o3 (.sliceV true 1 u2 none (some u0) none) 4 true,o3 (cf 29 [u4,u0]) 5 true,o1 (pk u6 u0 (.c (.bool false))),mt 0 2])
 .ret)) [.val k2]
noncomputable def af19:AFunc:=.mk 0 (sq ([mc (.bool false) 6])
 (sq ([o1 (cf 39 []),o1 (cf 21 [u0,(.c .nils),(.c (iz 9))]),m0,ox 0,ox 1,ox 2,o2 (.alloc [.nils,(iz 0),(iz 0),(iz 0),(iz 0)]) 1,mt 3 2,o1 (st 5 u1 u3),mt 3 0])
 (sq ([o1 (.build [.nils,.nils,.nils] []),o1 (cf 21 [u0,(.c .nils),(.c (iz 9))]),m0,ox 0,ox 1,ox 2,o1 (.alloc [.nils,(iz 0),(iz 0),(iz 0),(iz 0)]),o1 (.move u3),o1 (st 5 u1 u3),mt 3 3])
 (sq ([o1 (.build [(iz 0),(iz 0),(iz 0),(iz 0)] [(.mk 0 1 (.c (iz 5))),(.mk 2 1 (.c (iz 1)))]),o1 (.bslice [(iz 0),(iz 0),(iz 0),(iz 0)] 1 [(.mk 0 4 u0)]),mt 0 4])
 (sq ([o1 (.build [(iz 0),(iz 0),(iz 0),(iz 0)] [(.mk 0 1 (.c (iz 5))),(.mk 2 1 (.c (iz 2)))]),o1 (.build [(iz 0),(iz 0),(iz 0),(iz 0)] [(.mk 0 1 (.c (iz 6)))]),o1 (.bslice [(iz 0),(iz 0),(iz 0),(iz 0),(iz 0),(iz 0),(iz 0),(iz 0)] 2 [(.mk 0 4 u1),(.mk 4 4 u0)]),mt 0 5])
 (sq ([ml 0,o1 (en u0 (.c (iz 0))),m0,o3 (fa 1 k1) 0 true,o3 (ld u0) 1 true,o3 (en u0 (.c (iz 1))) 2 true,o1 (pk u3 u0 (.c (.bool false))),m0,o3 (.move k2) 0 true,o3 (ll u0) 1 true,o3 (en u0 (.c (iz 2))) 2 true,o1 (pk u3 u0 (.c (.bool false))),m0,o3 (.move k2) 0 true,o3 (ia 4 u0 (.c (iz 0))) 1 true,o3 (lN 4 u0) 2 true,o3 (.build [(iz 0),(iz 0),(iz 0),(iz 0)] [(.mk 0 1 (.c (iz 5))),(.mk 1 1 (.c (iz 3))),(.mk 2 1 (.c (iz 1)))]) 3 true,o3 (.eq false (.agg [.int,.int,.int,.int]) u1 u0) 4 true,o1 (pk u5 u0 (.c (.bool false))),m0,o3 (.move k2) 0 true,o3 (ia 4 u0 (.c (iz 1))) 1 true,o3 (lN 4 u0) 2 true,o3 (.build [(iz 0),(iz 0),(iz 0),(iz 0)] [(.mk 0 1 (.c (iz 5))),(.mk 1 1 (.c (iz 5))),(.mk 2 1 (.c (iz 2)))]) 3 true,o3 (.eq false (.agg [.int,.int,.int,.int]) u1 u0) 4 true,o1 (pk u5 u0 (.c (.bool false))),m0,o3 (.move k3) 0 true,o3 (en u0 (.c (iz 1))) 1 true,o1 (pk u2 u0 (.c (.bool false))),m0,o3 (.move k4) 0 true,o3 (.move k5) 1 true,o3 (cf 23 [u1,u0]) 2 true,o1 (pk u3 u0 (.c (.bool false))),m0,o3 (.move k5) 0 true,o3 (.move k4) 1 true,o3 (cf 23 [u1,u0]) 2 true,o3 (.not u0) 3 true,o1 (pk u4 u0 (.c (.bool false))),m0,o3 (.move k5) 0 true,o3 (.sliceV true 4 u0 none (some (.c (iz 1))) none) 1 true,o3 (.move k4) 2 true,o3 (cf 23 [u1,u0]) 3 true,o3 (.not u0) 4 true,o1 (pk u5 u0 (.c (.bool false))),m0,o3 (.move k5) 0 true,o3 (cf 40 [u0]) 1 true,o3 (.field 0 1 false u0) 2 true,o3 (en u0 (.c (iz 6))) 3 true,o1 (pk u4 u0 (.c (.bool false))),m0,o3 (cf 40 [(.c .nils)]) 0 true,o3 (.build [(iz 0),(iz 0),(iz 0),(iz 0)] []) 1 true,o3 (.eq false (.agg [.int,.int,.int,.int]) u1 u0) 2 true,o1 (pk u3 u0 (.c (.bool false))),mt 0 6])
 .ret)))))) [.val k6]
noncomputable def af20:AFunc:=.mk 1 (sq ([o2 (.box k0) 1,mc (.bool false) 15])
 (.seq (sq ([o1 (fa 0 k1),o1 (ld u0),o1 (ll u0),o1 (gt u0 (.c (iz 16))),m0,o3 (fa 1 k1) 0 false,o3 (ld u0) 1 false,o3 (ll u0) 2 false,o3 (gt u0 (.c (iz 20))) 3 false,o1 (pk u4 (.c (.bool true)) u0),m0,o3 (fa 2 k1) 0 false,o3 (ld u0) 1 false,o3 (ll u0) 2 false,o3 (gt u0 (.c (iz 8))) 3 false,o2 (pk u4 (.c (.bool true)) u0) 2])
 (.cond k2 (sq ([mc (.bool true) 15])
 .ret) .skip))
 (sq ([mc (iz 0) 12])
 (.seq (sq ([mc (iz 0) 3])
 (.block 0 (.loop (.seq (sq ([ml 3,o1 (fa 0 k1),o1 (ld u0),o1 (ll u0),o2 (ls u3 u0) 4])
 (.cond k4 .skip (.exit 0)))
 (.seq (.block 1 (sq ([o1 (fa 0 k1),o1 (ld u0),ml 3,o1 (ia 2 u1 u0),o1 (fa 1 u0),o1 (ld u0),o1 (ll u0),o2 (gt u0 (.c (iz 12))) 5])
 (.cond k5 (sq ([mc (.bool true) 15])
 .ret) .skip)))
 (.ops [ml 3,o1 (ad u0 (.c (iz 1))),mt 0 3]))))))
 (.seq (sq ([mc (iz 0) 6])
 (.block 2 (.loop (.seq (sq ([ml 6,o1 (fa 2 k1),o1 (ld u0),o1 (ll u0),o2 (ls u3 u0) 7])
 (.cond k7 .skip (.exit 2)))
 (.seq (.block 3 (sq ([o1 (fa 2 k1),o1 (ld u0),ml 6,o1 (ia 6 u1 u0),o1 (lN 6 u0),o2 (.alloc [(.str 0 0),.nils,(.str 0 0),.nils,.nils,.nils]) 8,o1 (st 6 u0 u1)])
 (.seq (sq ([o1 (fa 1 k8),o1 (ld u0),o1 (ll u0),o1 (gt u0 (.c (iz 10))),m0,o3 (fa 3 k8) 0 false,o3 (ld u0) 1 false,o3 (ll u0) 2 false,o3 (gt u0 (.c (iz 60))) 3 false,o1 (pk u4 (.c (.bool true)) u0),m0,o3 (fa 4 k8) 0 false,o3 (ld u0) 1 false,o3 (ll u0) 2 false,o3 (gt u0 (.c (iz 300))) 3 false,o1 (pk u4 (.c (.bool true)) u0),m0,o3 (fa 5 k8) 0 false,o3 (ld u0) 1 false,o3 (ll u0) 2 false,o3 (gt u0 (.c (iz 30))) 3 false,o2 (pk u4 (.c (.bool true)) u0) 9])
 (.cond k9 (sq ([mc (.bool true) 15])
 .ret) .skip))
 (.seq (sq ([mc (iz 0) 10])
 (.block 4 (.loop (.seq (sq ([ml 10,o1 (fa 4 k8),o1 (ld u0),o1 (ll u0),o2 (ls u3 u0) 11])
 (.cond k11 .skip (.exit 4)))
 (.seq (.block 5 (.ops [ml 12,o1 (fa 4 k8),o1 (ld u0),ml 10,o1 (ia 5 u1 u0),o1 (fa 2 u0),o1 (ld u0),o1 (ll u0),o1 (ad u7 u0),mt 0 12]))
 (.ops [ml 10,o1 (ad u0 (.c (iz 1))),mt 0 10]))))))
 (sq ([mc (iz 0) 13])
 (.block 6 (.loop (.seq (sq ([ml 13,o1 (fa 5 k8),o1 (ld u0),o1 (ll u0),o2 (ls u3 u0) 14])
 (.cond k14 .skip (.exit 6)))
 (.seq (.block 7 (.ops [ml 12,o1 (fa 5 k8),o1 (ld u0),ml 13,o1 (ia 5 u1 u0),o1 (fa 0 u0),o1 (ld u0),o1 (ll u0),o1 (ad u7 u0),mt 0 12]))
 (.ops [ml 13,o1 (ad u0 (.c (iz 1))),mt 0 13]))))))))))
 (.ops [ml 6,o1 (ad u0 (.c (iz 1))),mt 0 6]))))))
 (sq ([ml 12,o1 (gt u0 (.c (iz 1000))),mt 0 15])
 .ret)))))) [.val k15]
noncomputable def af21:AFunc:=.mk 3 (sq ([o2 (.box k0) 3,o2 (.box k1) 4,mc .nils 19,o2 (.alloc [.nils,(iz 0),(iz 0),(iz 0),(iz 0)]) 7,mc (iz 0) 20])
 (sq ([o1 (lN 3 k3),o1 (ld k4),ml 2,o1 (cf 11 [u2,u1,u0]),m0,ox 0,ox 1,ox 2,o2 (.alloc [.nils,(iz 0),(iz 0),(iz 0),(iz 0)]) 8,o1 (st 5 u0 u3),o1 (.move u3),mt 3 5])
 (.seq (sq ([ml 5,o2 (nn u0 (.c (iz 0))) 6])
 (.cond k6 (sq ([o1 (.build [.nils,(iz 0),(iz 0),(iz 0),(iz 0)] []),ml 5,mc .nils 19,o1 (st 5 k7 u2),mt 2 20])
 .ret) .skip))
 (sq ([mc .nils 15])
 (.seq (sq ([o1 (fa 0 k8),o2 (ld u0) 12,o2 (ll u0) 10,mc (iz 0) 9])
 (.block 0 (.loop (sq ([o2 (ls k9 k10) 11])
 (.seq (.cond k11 .skip (.exit 0))
 (.seq (.block 1 (sq ([ml 9,o1 (ia 1 k12 k9),o1 (ld u0),o2 (.alloc [(iz 0)]) 13,o1 (st 1 u0 u3),mt 2 16])
 (sq ([o1 (fa 3 k8),o1 (ld u0),o1 (.mkFn 42 [] [k3,k4,k13]),o1 (cf 41 [u1,u0]),mt 0 14])
 (sq ([o1 (lN 3 k3),o1 (ld k4),ml 14,o1 (cf 11 [u2,u1,u0]),m0,ox 0,ox 1,ox 2,o2 (.alloc [.nils,(iz 0),(iz 0),(iz 0),(iz 0)]) 17,o1 (st 5 u0 u3),mt 3 18,o1 (.move u3)])
 (.ops [ml 15,ml 16,ml 14,o1 (fa 4 k17),o1 (ld u0),ml 18,o1 (.build [(iz 0),(iz 0),(iz 0),(iz 0)] [(.mk 0 1 u4),(.mk 1 1 u3),(.mk 2 1 u1),(.mk 3 1 u0)]),o1 (.bslice [(iz 0),(iz 0),(iz 0),(iz 0)] 1 [(.mk 0 4 u0)]),o1 (ap 4 32 u7 u0),mt 0 15])))))
 (.ops [o1 (ad k9 (.c (iz 1))),mt 0 9])))))))
 (sq ([ml 15,o1 (lN 5 k8),mt 1 19,o1 (st 5 k7 u1),mc (iz 0) 20])
 .ret)))))) [.val k19,.cellN 5 k7,.val k20]
noncomputable def af23:AFunc:=.mk 2 (sq ([mc (.bool false) 10])
 (.seq (sq ([ml 0,o1 (ll u0),ml 1,o1 (ll u0),o2 (gt u2 u0) 2])
 (.cond k2 (sq ([mc (.bool false) 10])
 .ret) .skip))
 (.seq (sq ([o2 (.move k0) 6,o2 (ll u0) 4,mc (iz 0) 3])
 (.block 0 (.loop (sq ([o2 (ls k3 k4) 5])
 (.seq (.cond k5 .skip (.exit 0))
 (.seq (.block 1 (sq ([ml 3,o1 (ia 4 k6 k3),o1 (lN 4 u0),o2 (.alloc [(iz 0),(iz 0),(iz 0),(iz 0)]) 7,mt 3 8,o1 (st 4 u1 u2)])
 (sq ([o1 (fa 0 k7),o1 (ld u0),ml 1,ml 8,o1 (ia 4 u1 u0),o1 (fa 0 u0),o1 (ld u0),o1 (nn u5 u0),m0,o3 (fa 2 k7) 0 false,o3 (ld u0) 1 false,o3 (.move k1) 2 false,o3 (.move k8) 3 false,o3 (ia 4 u1 u0) 4 false,o3 (fa 2 u0) 5 false,o3 (ld u0) 6 false,o3 (gt u5 u0) 7 false,o2 (pk u8 (.c (.bool true)) u0) 9])
 (.cond k9 (sq ([mc (.bool false) 10])
 .ret) .skip))))
 (.ops [o1 (ad k3 (.c (iz 1))),mt 0 3])))))))
 (sq ([mc (.bool true) 10])
 .ret)))) [.val k10]
noncomputable def af25:AFunc:=.mk 4 (sq ([o2 (.box k0) 4,o2 (.alloc [.nils,(iz 0),(iz 0),(iz 0),(iz 0)]) 6,mc (iz 0) 14,mc (iz 0) 15])
 (.seq (.block 0 (sq ([o1 (lN 3 k4),o1 (cf 16 [u0]),o1 (.not u0),mt 0 5])
 (.cond k5 (sq ([o1 (.build [.nils,(iz 0),(iz 0),(iz 0),(iz 0)] []),o1 (st 5 k6 u0),mc (iz 0) 14,mc (iz 1) 15])
 .ret) (sq ([ml 2,o1 (ls u0 (.c (iz 0))),m0,o3 (.move k2) 0 false,o3 (gt u0 (.c (iz 1048576))) 1 false,o1 (pk u2 (.c (.bool true)) u0),mt 0 7])
 (.cond k7 (sq ([o1 (.build [.nils,(iz 0),(iz 0),(iz 0),(iz 0)] []),o1 (st 5 k6 u0),mc (iz 0) 14,mc (iz 9) 15])
 .ret) .skip)))))
 (sq ([o1 (lN 3 k4),o1 (fa 1 k4),o1 (ld u0),o1 (ll u0),o1 (.mkSlice [(iz 0)] 8 u0 u0),o1 (fa 0 k4),o1 (ld u0),ml 1,ml 2,ml 3,.mk (cf 43 [u3]) none none [.mk (ll u7) 6 none,.mk (ld u8) 7 none,.mk (lN 3 k4) 9 none],o1 (.build [.nils,.nils,.nils,.nils,.nils,.nilp,.nils,(iz 0),.nils,(iz 0),(iz 0),(iz 0),(iz 0),.nils,.nils,.nilf] [(.mk 0 3 u10),(.mk 4 1 u6),(.mk 5 1 u0),(.mk 6 1 u3),(.mk 7 1 u2),(.mk 15 1 u1)]),o1 (.box u0),mt 0 12])
 (.seq (sq ([o1 (fa 2 k4),o2 (ld u0) 11,o2 (ll u0) 9,mc (iz 0) 8])
 (.block 1 (.loop (sq ([o2 (ls k8 k9) 10])
 (.seq (.cond k10 .skip (.exit 1))
 (.seq (.block 2 (sq ([o1 (ia 6 k11 k8),o1 (lN 6 u0),o2 (.alloc [(.str 0 0),.nils,(.str 0 0),.nils,.nils,.nils]) 13,o1 (st 6 u0 u1)])
 (.ops [ml 12,ml 12,o1 (nc u0),o1 (fa 3 u0),o1 (ld u0),o1 (lN 6 k13),.mk (cf 44 [u0]) none none [.mk (ld u2) 1 none],o1 (.bslice [.nils] 1 [(.mk 0 1 u0)]),o1 (ap 1 24 u3 u0),o1 (nc u8),o1 (fa 3 u0),o1 (st 1 u0 u2)])))
 (.ops [o1 (ad k8 (.c (iz 1))),mt 0 8])))))))
 (sq ([ml 12,o1 (cf 45 [u0])])
 (sq ([ml 12,ml 12,o1 (nc u0),o1 (fa 5 u0),o1 (ld u0),o1 (cf 46 [u0,(.c (.bool false))]),o1 (nc u5),o1 (fa 8 u0),o1 (fa 4 u0),o1 (st 1 u0 u3)])
 (sq ([ml 12,o1 (nc u0),o1 (fa 8 u0),o1 (lN 5 u0),ml 12,o1 (nc u0),o1 (fa 5 u0),o1 (ld u0),.mk (cf 46 [u0,(.c (.bool true))]) none none [.mk (lN 5 u5) 4 none],o1 (st 5 k6 u5),mt 1 14,mc (iz 0) 15])
 .ret))))))) [.cellN 5 k6,.val k14,.val k15]
noncomputable def af29:AFunc:=.mk 2 (sq ([mc (.bool false) 8])
 (.seq (sq ([ml 0,o1 (ll u0),ml 1,o1 (ll u0),o2 (nn u2 u0) 2])
 (.cond k2 (sq ([mc (.bool false) 8])
 .ret) .skip))
 (.seq (sq ([ml 0,o2 (ll u0) 4,mc (iz 0) 3])
 (.block 0 (.loop (sq ([o2 (ls k3 k4) 5])
 (.seq (.cond k5 .skip (.exit 0))
 (.seq (.block 1 (sq ([ml 3,mt 0 6])
 (sq ([ml 0,ml 6,o1 (ia 1 u1 u0),o1 (ld u0),ml 1,ml 6,o1 (ia 1 u1 u0),o1 (ld u0),o2 (nn u4 u0) 7])
 (.cond k7 (sq ([mc (.bool false) 8])
 .ret) .skip))))
 (.ops [o1 (ad k3 (.c (iz 1))),mt 0 3])))))))
 (sq ([mc (.bool true) 8])
 .ret)))) [.val k8]
noncomputable def af35:AFunc:=.mk 1 (sq ([o2 (.box k0) 1,mc (.bool false) 21])
 (.seq (sq ([o1 (fa 0 k1),o1 (ld u0),o1 (cf 64 [u0]),m0,ox 0,ox 1,o1 (.move u1),mt 1 2])
 (sq ([ml 2,o1 (nn u0 (.c (iz 0))),m0,o3 (fa 1 k1) 0 false,o3 (ld u0) 1 false,o3 (ll u0) 2 false,o3 (gt u0 (.c (iz 12))) 3 false,o1 (pk u4 (.c (.bool true)) u0),m0,o3 (fa 2 k1) 0 false,o3 (ld u0) 1 false,o3 (ll u0) 2 false,o3 (gt u0 (.c (iz 24))) 3 false,o2 (pk u4 (.c (.bool true)) u0) 3])
 (.cond k3 (sq ([mc (.bool false) 21])
 .ret) .skip)))
 (sq ([.mk .mkMap none none [],mt 0 8])
 (.seq (sq ([o1 (fa 1 k1),o2 (ld u0) 7,o2 (ll u0) 5,mc (iz 0) 4])
 (.block 0 (.loop (sq ([o2 (ls k4 k5) 6])
 (.seq (.cond k6 .skip (.exit 0))
 (.seq (.block 1 (sq ([o1 (ia 2 k7 k4),o1 (lN 2 u0),o2 (.alloc [(.str 0 0),(.str 0 0)]) 9,o1 (st 2 u0 u1)])
 (.seq (sq ([ml 8,o1 (fa 0 k9),o1 (ld u0),o1 (.lookup (.one .str) (.bool false) false u2 u0),m0,o3 (fa 0 k9) 0 false,o3 (ld u0) 1 false,o3 (cf 65 [u0]) 2 false,o3 (.not u0) 3 false,o1 (pk u4 (.c (.bool true)) u0),m0,o3 (fa 0 k1) 0 false,o3 (ld u0) 1 false,o3 (fa 1 k9) 2 false,o3 (ld u0) 3 false,o3 (cf 66 [u2,u0]) 4 false,o3 (.not u0) 5 false,o2 (pk u6 (.c (.bool true)) u0) 10])
 (.cond k10 (sq ([mc (.bool false) 21])
 .ret) .skip))
 (.ops [ml 8,o1 (fa 0 k9),o1 (ld u0),o1 (.mapUpd (.one .str) u2 u0 (.c (.bool true)))]))))
 (.ops [o1 (ad k4 (.c (iz 1))),mt 0 4])))))))
 (.seq (sq ([o1 (fa 2 k1),o2 (ld u0) 14,o2 (ll u0) 12,mc (iz 0) 11])
 (.block 2 (.loop (sq ([o2 (ls k11 k12) 13])
 (.seq (.cond k13 .skip (.exit 2))
 (.seq (.block 3 (sq ([ml 11,o1 (ia 6 k14 k11),o1 (lN 6 u0),o2 (.alloc [(.str 0 0),.nils,(.str 0 0),.nils,.nils,.nils]) 15,mt 3 17,o1 (st 6 u1 u2)])
 (sq ([o1 (lN 3 k1),o1 (fa 0 k15),o1 (ld u0),o1 (cf 67 [u2,u0]),m0,ox 0,ox 1,mt 1 16,o1 (.move u1)])
 (sq ([ml 16,ml 17,o1 (nn u1 u0),m0,o3 (fa 0 k15) 0 false,o3 (ld u0) 1 false,o3 (cf 65 [u0]) 2 false,o3 (.not u0) 3 false,o2 (pk u4 (.c (.bool true)) u0) 18])
 (.cond k18 (sq ([mc (.bool false) 21])
 .ret) .skip)))))
 (.ops [o1 (ad k11 (.c (iz 1))),mt 0 11])))))))
 (sq ([o1 (lN 3 k1),o1 (cf 67 [u0,(.c (.str 4 1852399981))]),m0,ox 0,ox 1,mt 1 20,mt 1 19])
 (sq ([ml 19,m0,o3 (fa 2 k1) 0 true,o3 (ld u0) 1 true,o3 (.move k20) 2 true,o3 (ia 6 u1 u0) 3 true,o3 (fa 1 u0) 4 true,o3 (ld u0) 5 true,o3 (ll u0) 6 true,o3 (en u0 (.c (iz 0))) 7 true,o1 (pk u8 u0 (.c (.bool false))),m0,o3 (fa 2 k1) 0 true,o3 (ld u0) 1 true,o3 (.move k20) 2 true,o3 (ia 6 u1 u0) 3 true,o3 (fa 2 u0) 4 true,o3 (ld u0) 5 true,o3 (en u0 (.c (.str 0 0))) 6 true,o1 (pk u7 u0 (.c (.bool false))),mt 0 21])
 .ret))))))) [.val k21]
noncomputable def af36:AFunc:=.mk 1 (sq ([mc (.bool false) 14])
 (.seq (sq ([ml 0,o1 (cf 68 [u0]),o1 (.not u0),m0,o3 (.move k0) 0 false,o3 (cf 69 [u0]) 1 false,o3 (.not u0) 2 false,o1 (pk u3 (.c (.bool true)) u0),m0,o3 (.move k0) 0 false,o3 (cf 70 [u0]) 1 false,o3 (.not u0) 2 false,o2 (pk u3 (.c (.bool true)) u0) 1])
 (.cond k1 (sq ([mc (.bool false) 14])
 .ret) .skip))
 (sq ([ml 0,ml 0,ml 0,o1 (nc u0),o1 (fa 3 u0),o1 (lN 6 u0),ml 0,o1 (nc u0),o1 (fa 3 u0),o1 (lN 6 u0),.mk (cf 44 [u4]) none none [.mk (lN 6 u1) 0 none],o1 (cf 71 [u1]),o1 (nc u11),o1 (fa 11 u0),o1 (st 1 u0 u3),o1 (nc u13),o1 (fa 12 u0),o1 (st 1 u0 u5)])
 (.seq (sq ([ml 0,o1 (nc u0),o1 (fa 3 u0),o1 (fa 5 u0),o2 (ld u0) 5,o2 (ll u0) 3,mc (iz 0) 2])
 (.block 0 (.loop (sq ([o2 (ls k2 k3) 4])
 (.seq (.cond k4 .skip (.exit 0))
 (.seq (.block 1 (sq ([ml 2,o1 (ia 5 k5 k2),o1 (lN 5 u0),o2 (.alloc [.nils,(iz 0),(iz 0),(iz 0),(iz 0)]) 6,mt 3 10,o1 (st 5 u1 u2)])
 (.seq (sq ([o1 (fa 0 k6),o1 (ld u0),o2 (ll u0) 8,mc (iz 0) 7])
 (.block 2 (.loop (sq ([o2 (ls k7 k8) 9])
 (.seq (.cond k9 .skip (.exit 2))
 (.seq (.block 3 (sq ([ml 7,mt 0 11])
 (sq ([ml 0,ml 10,ml 11,o1 (cf 72 [u2,u1,u0]),o2 (.not u0) 12])
 (.cond k12 (sq ([mc (.bool false) 14])
 .ret) .skip))))
 (.ops [o1 (ad k7 (.c (iz 1))),mt 0 7])))))))
 (sq ([ml 0,ml 10,o1 (cf 73 [u1,u0]),o2 (.not u0) 13])
 (.cond k13 (sq ([mc (.bool false) 14])
 .ret) .skip)))))
 (.ops [o1 (ad k2 (.c (iz 1))),mt 0 2])))))))
 (sq ([mc (.bool true) 14])
 .ret))))) [.val k14]
noncomputable def af37:AFunc:=.mk 1 (sq ([mc .nils 2])
 (.seq (sq ([ml 0,o2 (.eq false .sl u0 (.c .nils)) 1])
 (.cond k1 (sq ([mc .nils 2])
 .ret) .skip))
 (sq ([o1 (.bslice [] 0 []),ml 0,o1 (ap 2 32 u1 u0),mt 0 2])
 .ret))) [.val k2]
noncomputable def af39:AFunc:=.mk 0 (sq ([o2 (.alloc [.nils,.nils,.nils]) 1])
 (sq ([o1 (.build [(iz 0),(.str 0 0),.nils,(iz 0),(.str 0 0)] [(.mk 0 1 (.c (iz 24))),(.mk 1 1 (.c (.str 2 21546))),(.mk 4 1 (.c (.str 1 84)))]),o2 (.alloc [(iz 0),(.str 0 0),.nils,(iz 0),(.str 0 0)]) 0,o1 (st 5 u0 u1)])
 (sq ([o1 (.build [(.str 0 0),.nils] [(.mk 0 1 (.c (.str 1 84)))]),o1 (.bslice [(.str 0 0),.nils] 1 [(.mk 0 2 u0)]),o1 (.build [(iz 0),(.str 0 0),.nils,(iz 0),(.str 0 0)] [(.mk 0 1 (.c (iz 21))),(.mk 1 1 (.c (.str 3 7630441))),(.mk 3 1 (.c (iz 5)))]),o1 (lN 5 k0),o1 (.bslice [(iz 0)] 1 [(.mk 0 1 (.c (iz 0)))]),o1 (.build [(iz 0),(.str 0 0),.nils,(iz 0),(.str 0 0)] [(.mk 0 1 (.c (iz 32))),(.mk 2 1 u0)]),o1 (lN 5 k0),o1 (.bslice [(iz 0)] 1 [(.mk 0 1 (.c (iz 0)))]),o1 (.build [(iz 0),(.str 0 0),.nils,(iz 0),(.str 0 0)] [(.mk 0 1 (.c (iz 32))),(.mk 2 1 u0)]),o1 (.bslice [(iz 0),(.str 0 0),.nils,(iz 0),(.str 0 0),(iz 0),(.str 0 0),.nils,(iz 0),(.str 0 0),(iz 0),(.str 0 0),.nils,(iz 0),(.str 0 0),(iz 0),(.str 0 0),.nils,(iz 0),(.str 0 0),(iz 0),(.str 0 0),.nils,(iz 0),(.str 0 0)] 5 [(.mk 0 5 u6),(.mk 5 5 u5),(.mk 10 5 u3),(.mk 15 5 u2),(.mk 20 5 u0)]),o1 (.bslice [(iz 0),(iz 0),(iz 0),(iz 0),(iz 0)] 5 [(.mk 0 1 (.c (iz 0))),(.mk 1 1 (.c (iz 1))),(.mk 2 1 (.c (iz 2))),(.mk 3 1 (.c (iz 3))),(.mk 4 1 (.c (iz 4)))]),o1 (.build [.nils,(iz 0),(iz 0),(iz 0),(iz 0)] [(.mk 0 1 u0),(.mk 1 1 (.c (iz 3))),(.mk 2 1 (.c (.int .i64 (.negSucc 0))))]),o1 (.bslice [.nils,(iz 0),(iz 0),(iz 0),(iz 0)] 1 [(.mk 0 5 u0)]),o1 (.build [(.str 0 0),.nils,(.str 0 0),.nils,.nils,.nils] [(.mk 0 1 (.c (.str 4 1852399981))),(.mk 4 1 u3),(.mk 5 1 u0)]),o1 (.bslice [(.str 0 0),.nils,(.str 0 0),.nils,.nils,.nils] 1 [(.mk 0 6 u0)]),o1 (.build [.nils,.nils,.nils] [(.mk 0 1 u13),(.mk 2 1 u0)]),o1 (st 3 k1 u0)])
 .ret))) [.cellN 3 k1]
noncomputable def af40:AFunc:=.mk 1 (sq ([o2 (.alloc [(iz 0),(iz 0),(iz 0),(iz 0)]) 2])
 (.seq (sq ([ml 0,o1 (ll u0),o2 (en u0 (.c (iz 0))) 1])
 (.cond k1 (sq ([o1 (.build [(iz 0),(iz 0),(iz 0),(iz 0)] []),o1 (st 4 k2 u0)])
 .ret) .skip))
 (sq ([ml 0,ml 0,o1 (ll u0),o1 (sb u0 (.c (iz 1))),o1 (ia 4 u3 u0),o1 (lN 4 u0),o1 (st 4 k2 u0)])
 .ret))) [.cellN 4 k2]
noncomputable def af41:AFunc:=.mk 2 (sq ([mc (iz 0) 7])
 (sq ([ml 0,mc (iz 0) 2,mt 1 3])
 (.seq (.block 0 (.loop (.seq (sq ([ml 2,ml 3,o2 (ls u1 u0) 4])
 (.cond k4 .skip (.exit 0)))
 (.block 1 (sq ([ml 2,ml 3,o1 (ad u1 u0),o1 (.convI .u64 u0),o1 (.bin .shr u0 (.c (.int .u64 (.ofNat 1)))),o1 (.convI .i64 u0),mt 0 5])
 (sq ([ml 1,ml 5,o1 (.callV u1 [u0]),o2 (.not u0) 6])
 (.cond k6 (.ops [ml 5,o1 (ad u0 (.c (iz 1))),mt 0 2]) (.ops [ml 5,mt 0 3]))))))))
 (sq ([ml 2,mt 0 7])
 .ret)))) [.val k7]
noncomputable def af42:AFunc:=.mk 4 (sq ([mc (.bool false) 5])
 (sq ([o1 (lN 3 k1),o1 (ld k2),ml 0,o1 (cf 11 [u2,u1,u0]),m0,ox 0,ox 1,ox 2,o2 (.alloc [.nils,(iz 0),(iz 0),(iz 0),(iz 0)]) 4,o1 (st 5 u0 u3),o1 (.move u3),o1 (.move u3)])
 (sq ([o1 (fa 0 k4),o1 (ld u0),o1 (ll u0),o1 (ld k3),o1 (gt u1 u0),mt 0 5])
 .ret))) [.val k5]
noncomputable def af43:AFunc:=.mk 1 (sq ([mc .nilp 9])
 (.seq (sq ([ml 0,o1 (cf 64 [u0]),m0,ox 0,ox 1,o1 (.move u1),mt 1 1])
 (sq ([ml 1,o2 (nn u0 (.c (iz 0))) 2])
 (.cond k2 (sq ([mc .nilp 9])
 .ret) .skip)))
 (sq ([o1 (.build [.nils,.nils,.nils,(iz 0)] []),o1 (.box u0),mt 0 7])
 (.seq (sq ([o2 (.move k0) 6,o2 (ll u0) 4,mc (iz 0) 3])
 (.block 0 (.loop (sq ([o2 (ls k3 k4) 5])
 (.seq (.cond k5 .skip (.exit 0))
 (.seq (.block 1 (sq ([o1 (ia 2 k6 k3),o1 (lN 2 u0),o2 (.alloc [(.str 0 0),.nils]) 8,o1 (st 2 u0 u1)])
 (.ops [ml 7,ml 7,o1 (nc u0),o1 (fa 0 u0),o1 (ld u0),o1 (fa 0 k8),o1 (ld u0),o1 (fa 1 k8),o1 (ld u0),.mk (cf 37 [u0]) none none [.mk (ld u3) 2 none,.mk (ld u5) 4 none],o1 (.build [(.str 0 0),.nils] [(.mk 0 1 u3),(.mk 1 1 u0)]),o1 (.bslice [(.str 0 0),.nils] 1 [(.mk 0 2 u0)]),o1 (ap 2 40 u7 u0),o1 (nc u12),o1 (fa 0 u0),o1 (st 1 u0 u2)])))
 (.ops [o1 (ad k3 (.c (iz 1))),mt 0 3])))))))
 (sq ([ml 7,mt 0 9])
 .ret))))) [.val k9]
noncomputable def af44:AFunc:=.mk 1 (sq ([o2 (.box k0) 1,mc .nils 12])
 (sq ([o1 (fa 5 k1),o1 (ld u0),o1 (ll u0),o1 (.mkSlice [.nils] 24 u0 u0),mt 0 10])
 (.seq (sq ([o1 (fa 5 k1),o1 (ld u0),o2 (ll u0) 3,mc (iz 0) 2])
 (.block 0 (.loop (sq ([o2 (ls k2 k3) 4])
 (.seq (.cond k4 .skip (.exit 0))
 (.seq (.block 1 (sq ([ml 2,mt 0 5])
 (sq ([o1 (lN 6 k1),ml 5,o2 (cf 76 [u1,u0]) 9,o2 (ll u0) 7,mc (iz 0) 6])
 (.block 2 (.loop (sq ([o2 (ls k6 k7) 8])
 (.seq (.cond k8 .skip (.exit 2))
 (.seq (.block 3 (sq ([o1 (ia 1 k9 k6),o1 (ld u0),mt 0 11])
 (.ops [ml 10,ml 11,ml 10,ml 11,o1 (ia 1 u1 u0),o1 (ld u0),ml 5,o1 (.bslice [(iz 0)] 1 [(.mk 0 1 u0)]),o1 (ap 1 8 u2 u0),o1 (ia 1 u8 u7),o1 (st 1 u0 u1)])))
 (.ops [o1 (ad k6 (.c (iz 1))),mt 0 6])))))))))
 (.ops [o1 (ad k2 (.c (iz 1))),mt 0 2])))))))
 (sq ([ml 10,mt 0 12])
 .ret)))) [.val k12]
noncomputable def af45:AFunc:=.mk 1 (sq ([o2 (.box k0) 1])
 (sq ([o1 (.mkFn 77 [] [k1]),o1 (.dfr u0)])
 (sq ([o1 (ld k1),o1 (nc u0),o1 (fa 0 u0),o1 (lN 3 u0),o1 (cf 67 [u0,(.c (.str 4 1852399981))]),m0,ox 0,ox 1,mt 1 2,o1 (.move u1)])
 (sq ([o1 (ld k1),ml 2,o1 (cf 79 [u1,u0,(.c .nils)])])
 (.ops [o1 (ld k1),o1 (nc u0),o1 (fa 8 u0),o1 (fa 1 u0),o1 (st 1 u0 (.c (iz 1)))]))))) []
noncomputable def af46:AFunc:=.mk 2 (sq ([mc (iz 0) 4])
 (.seq (.block 0 (sq ([ml 0,o1 (.eq false .ptr u0 (.c .nilp)),mt 0 2])
 (.cond k2 (sq ([mc (iz 0) 4])
 .ret) (sq ([ml 1,mt 0 3])
 (.cond k3 (sq ([ml 0,o1 (nc u0),o1 (fa 3 u0),o1 (ld u0),mt 0 4])
 .ret) .skip)))))
 (sq ([ml 0,o1 (nc u0),o1 (fa 1 u0),o1 (ld u0),o1 (ll u0),ml 0,o1 (nc u0),o1 (fa 3 u0),o1 (ld u0),o1 (sb u4 u0),mt 0 4])
 .ret))) [.val k4]
noncomputable def af64:AFunc:=.mk 1 (sq ([mc (iz 0) 8,mc (iz 0) 9])
 (.seq (sq ([ml 0,o1 (ll u0),o2 (gt u0 (.c (iz 12))) 1])
 (.cond k1 (sq ([mc (iz 0) 8,mc (iz 4) 9])
 .ret) .skip))
 (.seq (sq ([ml 0,o2 (ll u0) 3,mc (iz 0) 2])
 (.block 0 (.loop (sq ([o2 (ls k2 k3) 4])
 (.seq (.cond k4 .skip (.exit 0))
 (.seq (.block 1 (sq ([ml 2,mt 0 5])
 (sq ([ml 0,ml 5,o1 (cf 104 [u1,u0]),mt 0 6])
 (sq ([ml 6,o2 (nn u0 (.c (iz 0))) 7])
 (.cond k7 (sq ([ml 5,ml 6,mt 1 8,mt 1 9])
 .ret) .skip)))))
 (.ops [o1 (ad k2 (.c (iz 1))),mt 0 2])))))))
 (sq ([mc (iz 0) 8,mc (iz 0) 9])
 .ret)))) [.val k8,.val k9]
noncomputable def af65:AFunc:=.mk 1 (sq ([mc (.bool false) 1])
 (sq ([ml 0,o1 (cf 105 [u0]),m0,o3 (.move k0) 0 true,o3 (lt u0) 1 true,o3 (le u0 (.c (iz 12))) 2 true,o1 (pk u3 u0 (.c (.bool false))),m0,o3 (.move k0) 0 true,o3 (cf 106 [u0]) 1 true,o3 (.not u0) 2 true,o1 (pk u3 u0 (.c (.bool false))),mt 0 1])
 .ret)) [.val k1]
noncomputable def af66:AFunc:=.mk 2 (sq ([mc (.bool false) 6])
 (.seq (sq ([ml 1,o1 (en u0 (.c (.str 3 7630441))),m0,o3 (.move k1) 0 false,o3 (en u0 (.c (.str 4 1819242338))) 1 false,o2 (pk u2 (.c (.bool true)) u0) 2])
 (.cond k2 (sq ([mc (.bool true) 6])
 .ret) .skip))
 (sq ([ml 1,o1 (cf 107 [u0,(.c (.str 1 42))]),m0,ox 0,ox 1,mt 1 5,mt 1 3])
 (.seq (sq ([ml 3,o2 (.not u0) 4])
 (.cond k4 (sq ([mc (.bool false) 6])
 .ret) .skip))
 (sq ([ml 0,ml 5,o1 (cf 108 [u1,u0]),m0,ox 0,ox 1,mt 0 3])
 (sq ([ml 3,mt 0 6])
 .ret)))))) [.val k6]
noncomputable def af67:AFunc:=.mk 2 (sq ([o2 (.box k0) 2,o2 (.box k1) 3,mc (iz 0) 5,mc (.bool false) 6])
 (sq ([o1 (fa 2 k2),o1 (ld u0),o1 (.mkFn 110 [] [k3]),o1 (cf 109 [u1,u0]),mt 0 4])
 (sq ([ml 4,o1 (.max u0 (.c (iz 0))),ml 4,o1 (ge u0 (.c (iz 0))),mt 2 5,mt 1 6])
 .ret))) [.val k5,.val k6]
noncomputable def af68:AFunc:=.mk 1 (sq ([o2 (.box k0) 1,mc (.bool false) 5])
 (sq ([o1 (ld k1),o1 (nc u0),o1 (fa 3 u0),o1 (lN 6 u0),o2 (.alloc [(.str 0 0),.nils,(.str 0 0),.nils,.nils,.nils]) 2,o1 (st 6 u0 u1)])
 (.seq (sq ([o1 (fa 1 k2),o1 (ld u0),o1 (ll u0),o1 (gt u0 (.c (iz 6))),m0,o3 (fa 3 k2) 0 false,o3 (ld u0) 1 false,o3 (ll u0) 2 false,o3 (gt u0 (.c (iz 16384))) 3 false,o1 (pk u4 (.c (.bool true)) u0),m0,o3 (fa 4 k2) 0 false,o3 (ld u0) 1 false,o3 (ll u0) 2 false,o3 (gt u0 (.c (iz 16384))) 3 false,o1 (pk u4 (.c (.bool true)) u0),m0,o3 (fa 5 k2) 0 false,o3 (ld u0) 1 false,o3 (ll u0) 2 false,o3 (gt u0 (.c (iz 4096))) 3 false,o1 (pk u4 (.c (.bool true)) u0),m0,o3 (fa 5 k2) 0 false,o3 (ld u0) 1 false,o3 (ll u0) 2 false,o3 (en u0 (.c (iz 0))) 3 false,o2 (pk u4 (.c (.bool true)) u0) 3])
 (.cond k3 (sq ([mc (.bool false) 5])
 .ret) .skip))
 (sq ([o1 (.mkFn 111 [] [k1]),mt 0 4])
 (sq ([o1 (fa 1 k2),o1 (ld u0),ml 4,o1 (cf 112 [u1,u0]),o1 (.not u0),m0,o3 (fa 3 k2) 0 true,o3 (ld u0) 1 true,o3 (.move k4) 2 true,o3 (cf 112 [u1,u0]) 3 true,o3 (.not u0) 4 true,o1 (pk u5 u0 (.c (.bool false))),m0,o3 (fa 2 k2) 0 true,o3 (ld u0) 1 true,o3 (en u0 (.c (.str 0 0))) 2 true,o3 (.move u0) 3 true,o3 (.move k4) 0 false,o3 (fa 2 k2) 1 false,o3 (ld u0) 2 false,o3 (.callV u2 [u0]) 3 false,o3 (.not u0) 4 false,o3 (pk u5 (.c (.bool true)) u0) 9 true,o1 (pk u10 u0 (.c (.bool false))),mt 0 5])
 .ret))))) [.val k5]
noncomputable def af69:AFunc:=.mk 1 (sq ([mc (.bool false) 14])
 (sq ([ml 0,o1 (.bslice [(iz 0)] 1 [(.mk 0 1 (.c (.int .i64 (.negSucc 0))))]),ml 0,o1 (nc u0),o1 (fa 3 u0),o1 (fa 4 u0),o1 (ld u0),o1 (ll u0),o1 (cf 113 [u6,u0]),o1 (nc u8),o1 (fa 9 u0),o1 (st 1 u0 u2)])
 (sq ([ml 0,ml 0,o1 (nc u0),o1 (fa 3 u0),o1 (fa 4 u0),o1 (ld u0),o1 (ll u0),o1 (.mkSlice [(iz 0)] 8 u0 u0),o1 (nc u7),o1 (fa 10 u0),o1 (st 1 u0 u2)])
 (.seq (sq ([ml 0,o1 (nc u0),o1 (fa 3 u0),o1 (fa 5 u0),o2 (ld u0) 4,o2 (ll u0) 2,mc (iz 0) 1])
 (.block 0 (.loop (sq ([o2 (ls k1 k2) 3])
 (.seq (.cond k3 .skip (.exit 0))
 (.seq (.block 1 (sq ([ml 1,o1 (ia 5 k4 k1),o1 (lN 5 u0),o2 (.alloc [.nils,(iz 0),(iz 0),(iz 0),(iz 0)]) 5,mt 3 12,o1 (st 5 u1 u2)])
 (sq ([o1 (fa 0 k5),o2 (ld u0) 9,o2 (ll u0) 7,mc (iz 0) 6])
 (.block 2 (.loop (sq ([o2 (ls k6 k7) 8])
 (.seq (.cond k8 .skip (.exit 2))
 (.seq (.block 3 (sq ([ml 6,o1 (ia 1 k9 k6),o1 (ld u0),mt 2 13,mt 1 10])
 (.seq (sq ([ml 10,o1 (ls u0 (.c (iz 0))),m0,o3 (.move k10) 0 false,o3 (.move k0) 1 false,o3 (nc u0) 2 false,o3 (fa 3 u0) 3 false,o3 (fa 4 u0) 4 false,o3 (ld u0) 5 false,o3 (ll u0) 6 false,o3 (ge u6 u0) 7 false,o1 (pk u8 (.c (.bool true)) u0),m0,o3 (.move k0) 0 false,o3 (nc u0) 1 false,o3 (fa 9 u0) 2 false,o3 (ld u0) 3 false,o3 (.move k10) 4 false,o3 (ia 1 u1 u0) 5 false,o3 (ld u0) 6 false,o3 (nn u0 (.c (.int .i64 (.negSucc 0)))) 7 false,o2 (pk u8 (.c (.bool true)) u0) 11])
 (.cond k11 (sq ([mc (.bool false) 14])
 .ret) .skip))
 (.ops [ml 0,o1 (nc u0),o1 (fa 9 u0),o1 (ld u0),ml 10,ml 0,o1 (nc u0),o1 (fa 10 u0),o1 (ld u0),ml 10,ml 12,ml 13,o1 (ia 1 u8 u7),o1 (st 1 u0 u2),o1 (ia 1 u5 u4),o1 (st 1 u0 u3)]))))
 (.ops [o1 (ad k6 (.c (iz 1))),mt 0 6])))))))))
 (.ops [o1 (ad k1 (.c (iz 1))),mt 0 1])))))))
 (sq ([mc (.bool true) 14])
 .ret))))) [.val k14]
noncomputable def af70:AFunc:=.mk 1 (sq ([o2 (.box k0) 1,mc (.bool false) 2])
 (sq ([o1 (ld k1),o1 (nc u0),o1 (fa 3 u0),o1 (fa 5 u0),o1 (ld u0),o1 (.mkFn 115 [] [k1]),o1 (cf 114 [u1,u0]),o1 (.not u0),m0,o3 (ld k1) 0 true,o3 (nc u0) 1 true,o3 (fa 3 u0) 2 true,o3 (lN 6 u0) 3 true,o3 (cf 118 [u0]) 4 true,o3 (cf 117 [u0,(.c (.bool false))]) 5 true,o3 (.not u0) 6 true,o1 (pk u7 u0 (.c (.bool false))),mt 0 2])
 .ret)) [.val k2]
noncomputable def af71:AFunc:=.mk 1 (sq ([o2 (.box k0) 1,mc .nils 4])
 (.seq (sq ([o1 (lN 6 k1),o1 (cf 119 [u0]),mt 0 2])
 (sq ([ml 2,o2 (.eq true .ptr u0 (.c .nilp)) 3])
 (.cond k3 (sq ([ml 2,o1 (nc u0),o1 (fa 3 u0),o1 (ld u0),mt 0 4])
 .ret) .skip)))
 (sq ([mc .nils 4])
 .ret))) [.val k4]
noncomputable def af72:AFunc:=.mk 3 (sq ([mc (.bool false) 13])
 (sq ([ml 0,o1 (nc u0),o1 (fa 3 u0),o1 (fa 4 u0),o1 (ld u0),ml 0,o1 (nc u0),o1 (fa 3 u0),o1 (fa 5 u0),o1 (ld u0),ml 1,o1 (ia 5 u1 u0),o1 (fa 0 u0),o1 (ld u0),ml 2,o1 (ia 1 u1 u0),o1 (ld u0),o1 (ia 5 u12 u0),o1 (lN 5 u0),o2 (.alloc [(iz 0),(.str 0 0),.nils,(iz 0),(.str 0 0)]) 3,o1 (st 5 u0 u1)])
 (.seq (sq ([o1 (fa 0 k3),o1 (ld u0),o1 (cf 120 [u0]),mt 0 4])
 (sq ([o1 (fa 0 k3),o1 (ld u0),o1 (cf 121 [u0]),o1 (.not u0),m0,o3 (.move k4) 0 false,o3 (ge u0 (.c (iz 0))) 1 false,o3 (.move u0) 2 false,o3 (.move k4) 0 true,o3 (fa 2 k3) 1 true,o3 (ld u0) 2 true,o3 (ll u0) 3 true,o3 (nn u3 u0) 4 true,o3 (pk u5 u0 (.c (.bool false))) 8 false,o1 (pk u9 (.c (.bool true)) u0),m0,o3 (lN 5 k3) 0 false,o3 (cf 122 [u0]) 1 false,o3 (.not u0) 2 false,o1 (pk u3 (.c (.bool true)) u0),m0,o3 (fa 0 k3) 0 false,o3 (ld u0) 1 false,o3 (en u0 (.c (iz 20))) 2 false,o3 (.move u0) 3 false,o3 (.move k1) 0 true,o3 (nn u0 (.c (iz 0))) 1 true,o3 (pk u2 u0 (.c (.bool false))) 6 false,o2 (pk u7 (.c (.bool true)) u0) 5])
 (.cond k5 (sq ([mc (.bool false) 13])
 .ret) .skip)))
 (.seq (sq ([o1 (fa 0 k3),o1 (ld u0),o2 (en u0 (.c (iz 34))) 6])
 (.cond k6 (sq ([ml 0,o1 (lN 5 k3),ml 1,ml 2,o1 (cf 123 [u3,u2,u1,u0]),mt 0 13])
 .ret) .skip))
 (sq ([mc .nils 11])
 (.seq (sq ([o1 (fa 2 k3),o2 (ld u0) 10,o2 (ll u0) 8,mc (iz 0) 7])
 (.block 0 (.loop (sq ([o2 (ls k7 k8) 9])
 (.seq (.cond k9 .skip (.exit 0))
 (.seq (.block 1 (sq ([o1 (ia 1 k10 k7),o1 (ld u0),mt 0 12])
 (.ops [ml 11,ml 0,ml 12,ml 1,ml 2,o1 (cf 124 [u3,u2,u1,u0]),o1 (.bslice [(.str 0 0)] 1 [(.mk 0 1 u0)]),o1 (ap 1 16 u6 u0),mt 0 11])))
 (.ops [o1 (ad k7 (.c (iz 1))),mt 0 7])))))))
 (sq ([ml 11,o1 (cf 125 [u0,(.c (.str 0 0))]),o1 (.not u0),m0,o3 (.move k0) 0 true,o3 (lN 5 k3) 1 true,o3 (.move k11) 2 true,o3 (cf 126 [u2,u1,u0]) 3 true,o1 (pk u4 u0 (.c (.bool false))),mt 0 13])
 .ret))))))) [.val k13]
noncomputable def af73:AFunc:=.mk 2 (sq ([mc (.bool false) 6])
 (sq ([ml 0,o1 (nc u0),o1 (fa 3 u0),o1 (fa 5 u0),o1 (ld u0),ml 1,o1 (ia 5 u1 u0),o1 (lN 5 u0),o2 (.alloc [.nils,(iz 0),(iz 0),(iz 0),(iz 0)]) 2,o1 (st 5 u0 u1)])
 (.seq (.block 0 (sq ([o1 (fa 1 k2),o1 (ld u0),o1 (en u0 (.c (iz 2))),mt 0 3])
 (.cond k3 (sq ([ml 0,o1 (fa 2 k2),o1 (ld u0),ml 1,o1 (cf 127 [u3,u1,u0]),o1 (en u0 (.c (.str 4 1819242338))),mt 0 6])
 .ret) (sq ([o1 (fa 1 k2),o1 (ld u0),o1 (en u0 (.c (iz 3))),m0,o3 (.move k0) 0 true,o3 (nc u0) 1 true,o3 (fa 3 u0) 2 true,o3 (fa 2 u0) 3 true,o3 (ld u0) 4 true,o3 (en u0 (.c (.str 0 0))) 5 true,o1 (pk u6 u0 (.c (.bool false))),mt 0 4])
 (.cond k4 (sq ([o1 (fa 2 k2),o1 (ld u0),o1 (en u0 (.c (.int .i64 (.negSucc 0)))),mt 0 6])
 .ret) (sq ([o1 (fa 1 k2),o1 (ld u0),o1 (en u0 (.c (iz 3))),mt 0 5])
 (.cond k5 (sq ([ml 0,o1 (fa 2 k2),o1 (ld u0),ml 1,ml 0,o1 (nc u0),o1 (fa 3 u0),o1 (fa 2 u0),o1 (ld u0),.mk (cf 127 [u8,u6,u5]) none none [.mk (ld u1) 0 none],o1 (en u0 u1),mt 0 6])
 .ret) .skip)))))))
 (sq ([mc (.bool true) 6])
 .ret)))) [.val k6]
noncomputable def af76:AFunc:=.mk 2 (sq ([o2 (.box k0) 2,mc .nils 9])
 (.seq (sq ([ml 1,o1 (ls u0 (.c (iz 0))),m0,o3 (.move k1) 0 false,o3 (fa 5 k2) 1 false,o3 (ld u0) 2 false,o3 (ll u0) 3 false,o3 (ge u3 u0) 4 false,o2 (pk u5 (.c (.bool true)) u0) 3])
 (.cond k3 (sq ([mc .nils 9])
 .ret) .skip))
 (sq ([o1 (fa 5 k2),o1 (ld u0),ml 1,o1 (ia 5 u1 u0),o1 (lN 5 u0),o2 (.alloc [.nils,(iz 0),(iz 0),(iz 0),(iz 0)]) 4,o1 (st 5 u0 u1)])
 (sq ([mc .nils 8])
 (.seq (sq ([o1 (fa 1 k4),o2 (ld u0) 5])
 (.block 0 (sq ([o1 (en k5 (.c (iz 1))),mt 0 6])
 (.cond k6 (.ops [o1 (fa 3 k4),o1 (.idxAddrA 2 1 u0 (.c (iz 0))),o1 (ld u0),o1 (.bslice [(iz 0)] 1 [(.mk 0 1 u0)]),mt 0 8]) (sq ([o1 (en k5 (.c (iz 2))),mt 0 7])
 (.cond k7 (.ops [o1 (fa 3 k4),o1 (.idxAddrA 2 1 u0 (.c (iz 0))),o1 (ld u0),o1 (fa 3 k4),o1 (.idxAddrA 2 1 u0 (.c (iz 1))),o1 (ld u0),o1 (.bslice [(iz 0),(iz 0)] 2 [(.mk 0 1 u3),(.mk 1 1 u0)]),o1 (cf 128 [u0]),mt 0 8]) .skip))))))
 (sq ([ml 8,o1 (.mkFn 130 [] [k2]),o1 (cf 129 [u1,u0]),mt 0 9])
 .ret)))))) [.val k9]
noncomputable def af77:AFunc:=.mk 1 (.seq (.seq (.recov (some 1))
 (sq ([ml 1,o2 (.eq true .ifc u0 (.c .nili)) 2])
 (.cond k2 (.ops [o1 (ld k0),o1 (ld k0),ml 1,o1 (.assert 146 false (.agg [(iz 0),(iz 0)]) u0),o1 (.field 0 1 false u0),ml 1,o1 (.assert 146 false (.agg [(iz 0),(iz 0)]) u0),o1 (.field 1 1 false u0),o1 (nc u7),o1 (fa 8 u0),o1 (fa 1 u0),o1 (st 1 u0 u6),o1 (nc u10),o1 (fa 8 u0),o1 (fa 2 u0),o1 (st 1 u0 u7)]) .skip)))
 (.ops [o1 (ld k0),o1 (ld k0),o1 (nc u0),o1 (fa 13 u0),o1 (ld u0),o1 (cf 78 [u4,(.c (iz 4)),(.c (.int .i64 (.negSucc 0))),(.c (iz 0)),(.c .nils),u0])])) []
noncomputable def af78:AFunc:=.mk 6 (sq ([o2 (.box k0) 6])
 (.seq (sq ([o1 (ld k6),o1 (nc u0),o1 (fa 15 u0),o1 (ld u0),o2 (.eq false .fn u0 (.c .nilf)) 7])
 (.cond k7 .ret .skip))
 (sq ([mc .nils 12])
 (.seq (sq ([o2 (.move k5) 11,o2 (ll u0) 9,mc (iz 0) 8])
 (.block 0 (.loop (sq ([o2 (ls k8 k9) 10])
 (.seq (.cond k10 .skip (.exit 0))
 (.seq (.block 1 (sq ([o1 (ia 1 k11 k8),o1 (ld u0),mt 0 13])
 (.ops [ml 12,o1 (ld k6),ml 13,o1 (cf 131 [u1,u0]),o1 (ap 1 8 u3 u0),mt 0 12])))
 (.ops [o1 (ad k8 (.c (iz 1))),mt 0 8])))))))
 (sq ([o1 (ld k6),o1 (nc u0),o1 (fa 4 u0),o1 (ld u0),o1 (.mkFn 133 [] [k6]),o1 (cf 132 [u1,u0]),mt 0 14])
 (.ops [o1 (ld k6),o1 (nc u0),o1 (fa 15 u0),o1 (ld u0),ml 1,ml 2,ml 3,ml 4,ml 14,ml 12,o1 (ld k6),o1 (nc u0),o1 (fa 5 u0),o1 (ld u0),o1 (ld k6),o1 (nc u0),o1 (fa 14 u0),o1 (ld u0),.mk (cf 134 [u10]) none none [.mk (ld u1) 0 none,.mk (ld k6) 3 none,.mk (ld u5) 4 none,.mk (ld k6) 7 none,.mk (ld u15) 14 none,.mk (ld k6) 17 none],.mk (cf 134 [u10]) none none [.mk (ld u2) 1 none,.mk (ld k6) 4 none,.mk (ld u6) 5 none,.mk (ld k6) 8 none,.mk (ld u16) 15 none,.mk (ld k6) 18 none],.mk (cf 134 [u10]) none none [.mk (ld u3) 2 none,.mk (ld k6) 5 none,.mk (ld u7) 6 none,.mk (ld k6) 9 none,.mk (ld u17) 16 none,.mk (ld k6) 19 none],.mk (cf 135 [u3]) none none [.mk (ld u8) 7 none,.mk (ld k6) 10 none,.mk (ld u18) 17 none,.mk (ld k6) 20 none],o1 (.build [(iz 0),(iz 0),(iz 0),.nils,.nils,.nils,.nilp,.nils] [(.mk 0 1 u17),(.mk 1 1 u16),(.mk 2 1 u15),(.mk 3 1 u3),(.mk 4 1 u2),(.mk 5 1 u1),(.mk 6 1 u8),(.mk 7 1 u0)]),o1 (.callV u19 [u0])])))))) []
noncomputable def af79:AFunc:=.mk 3 (sq ([mc (iz 0) 10])
 (sq ([ml 0,o1 (nc u0),o1 (fa 0 u0),o1 (fa 2 u0),o1 (ld u0),ml 1,o1 (ia 6 u1 u0),o1 (lN 6 u0),o2 (.alloc [(.str 0 0),.nils,(.str 0 0),.nils,.nils,.nils]) 3,o1 (st 6 u0 u1)])
 (sq ([ml 1,ml 0,o1 (nc u0),o1 (fa 5 u0),o1 (ld u0),ml 2,o1 (fa 4 k3),o1 (ld u0),o1 (ll u0),o1 (.mkSlice [(iz 0)] 8 u0 u0),o1 (fa 4 k3),o1 (ld u0),o1 (ll u0),o1 (.mkSlice [(.bool false)] 1 u0 u0),o1 (fa 3 k3),o1 (ld u0),o1 (ll u0),o1 (.mkSlice [(iz 0)] 8 u0 u0),.mk (cf 136 [u13]) none none [.mk (ll u2) 1 none,.mk (ld u3) 2 none,.mk (ll u6) 5 none,.mk (ld u7) 6 none,.mk (ll u10) 9 none,.mk (ld u11) 10 none],o1 (.build [(iz 0),(iz 0),.nils,.nils,.nils,.nils] [(.mk 0 1 u18),(.mk 1 1 u0),(.mk 2 1 u13),(.mk 3 1 u9),(.mk 4 1 u5),(.mk 5 1 u1)]),o1 (.box u0),mt 0 4])
 (sq ([ml 0,ml 0,o1 (nc u0),o1 (fa 13 u0),o1 (ld u0),ml 4,o1 (.bslice [.nilp] 1 [(.mk 0 1 u0)]),o1 (ap 1 8 u2 u0),o1 (nc u7),o1 (fa 13 u0),o1 (st 1 u0 u2)])
 (sq ([mc (iz 0) 5,mc (.int .i64 (.negSucc 0)) 7,mc (iz 0) 9])
 (.seq (.block 0 (.loop (.seq (sq ([ml 5,o2 (ge u0 (.c (iz 0))) 6])
 (.cond k6 .skip (.exit 0)))
 (.block 1 (sq ([ml 5,mt 0 8])
 (sq ([ml 0,ml 4,ml 5,ml 7,o1 (cf 137 [u3,u2,u1,u0]),m0,ox 0,ox 1,mt 1 5,mt 1 9])
 (.ops [ml 8,mt 0 7])))))))
 (sq ([ml 0,ml 4,ml 9,o1 (cf 138 [u2,u1,u0])])
 (sq ([ml 9,mt 0 10])
 .ret)))))))) [.val k10]
noncomputable def af104:AFunc:=.mk 2 (sq ([mc (iz 0) 15])
 (sq ([ml 0,ml 1,o1 (ia 2 u1 u0),o1 (lN 2 u0),o2 (.alloc [(.str 0 0),.nils]) 2,o1 (st 2 u0 u1)])
 (.seq (sq ([o1 (fa 0 k2),o1 (ld u0),o1 (cf 65 [u0]),o2 (.not u0) 3])
 (.cond k3 (sq ([mc (iz 1) 15])
 .ret) .skip))
 (.seq (sq ([ml 0,o1 (fa 0 k2),o1 (ld u0),o1 (cf 108 [u2,u0]),m0,ox 0,ox 1,mt 1 4,o1 (.move u1)])
 (sq ([ml 4,ml 1,o2 (ls u1 u0) 5])
 (.cond k5 (sq ([mc (iz 6) 15])
 .ret) .skip)))
 (.seq (sq ([o1 (fa 1 k2),o1 (ld u0),o1 (ll u0),o2 (gt u0 (.c (iz 8))) 6])
 (.cond k6 (sq ([mc (iz 4) 15])
 .ret) .skip))
 (.seq (sq ([o1 (fa 1 k2),o2 (ld u0) 10,o2 (ll u0) 8,mc (iz 0) 7])
 (.block 0 (.loop (sq ([o2 (ls k7 k8) 9])
 (.seq (.cond k9 .skip (.exit 0))
 (.seq (.block 1 (sq ([ml 7,o1 (ia 2 k10 k7),o1 (lN 2 u0),o2 (.alloc [(.str 0 0),(.str 0 0)]) 12,mt 3 11,o1 (st 2 u1 u2)])
 (sq ([ml 0,o1 (fa 1 k2),o1 (ld u0),ml 11,o1 (.sliceV false 2 u1 none (some u0) none),o1 (lN 2 k12),o1 (cf 141 [u5,u1,u0]),mt 0 13])
 (sq ([ml 13,o2 (nn u0 (.c (iz 0))) 14])
 (.cond k14 (sq ([ml 13,mt 0 15])
 .ret) .skip)))))
 (.ops [o1 (ad k7 (.c (iz 1))),mt 0 7])))))))
 (sq ([mc (iz 0) 15])
 .ret))))))) [.val k15]
noncomputable def af105:AFunc:=.mk 1 (sq ([mc (.bool false) 1])
 (sq ([ml 0,o1 (nn u0 (.c (.str 0 0))),m0,o3 (.move k0) 0 true,o3 (.idxS u0 (.c (iz 0))) 1 true,o3 (cf 142 [u0]) 2 true,o1 (pk u3 u0 (.c (.bool false))),m0,o3 (.move k0) 0 true,o3 (cf 143 [u0,(.c (.fn 144 [] []))]) 1 true,o3 (.move k0) 2 true,o3 (lt u0) 3 true,o3 (en u2 u0) 4 true,o1 (pk u5 u0 (.c (.bool false))),mt 0 1])
 .ret)) [.val k1]
noncomputable def af106:AFunc:=.mk 1 (sq ([mc (.bool false) 1])
 (sq ([o1 (cf 146 []),ml 0,o1 (cf 125 [u1,u0]),mt 0 1])
 .ret)) [.val k1]
noncomputable def af107:AFunc:=.mk 2 (sq ([mc (.str 0 0) 2,mc (.bool false) 3])
 (sq ([ml 0,ml 1,o1 (cf 147 [u1,u0]),ox 0,ox 1,mt 1 2,mt 1 3])
 .ret)) [.val k2,.val k3]
noncomputable def af108:AFunc:=.mk 2 (sq ([o2 (.box k1) 2,mc (iz 0) 4,mc (.bool false) 5])
 (sq ([ml 0,o1 (.mkFn 149 [] [k2]),o1 (cf 148 [u1,u0]),mt 0 3])
 (sq ([ml 3,o1 (.max u0 (.c (iz 0))),ml 3,o1 (ge u0 (.c (iz 0))),mt 2 4,mt 1 5])
 .ret))) [.val k4,.val k5]
noncomputable def af109:AFunc:=.mk 2 (sq ([mc (iz 0) 7])
 (.seq (sq ([ml 0,o2 (ll u0) 3,mc (iz 0) 2])
 (.block 0 (.loop (sq ([o2 (ls k2 k3) 4])
 (.seq (.cond k4 .skip (.exit 0))
 (.seq (.block 1 (sq ([ml 2,mt 0 5])
 (sq ([ml 1,ml 0,ml 5,o1 (ia 6 u1 u0),o1 (lN 6 u0),o2 (.callV u4 [u0]) 6])
 (.cond k6 (sq ([ml 5,mt 0 7])
 .ret) .skip))))
 (.ops [o1 (ad k2 (.c (iz 1))),mt 0 2])))))))
 (sq ([mc (.int .i64 (.negSucc 0)) 7])
 .ret))) [.val k7]
noncomputable def af110:AFunc:=.mk 2 (sq ([o2 (.box k0) 2,mc (.bool false) 3])
 (sq ([o1 (fa 0 k2),o1 (ld u0),o1 (ld k1),o1 (en u1 u0),mt 0 3])
 .ret)) [.val k3]
noncomputable def af111:AFunc:=.mk 2 (sq ([mc (.bool false) 2])
 (sq ([o1 (ld k1),o1 (nc u0),o1 (fa 0 u0),o1 (fa 0 u0),o1 (ld u0),ml 0,o1 (cf 66 [u1,u0]),o1 (.not u0),mt 0 2])
 .ret)) [.val k2]
noncomputable def af112:AFunc:=.mk 2 (sq ([mc (.bool false) 2])
 (sq ([ml 0,ml 1,o1 (cf 150 [u1,u0]),o1 (ge u0 (.c (iz 0))),mt 0 2])
 .ret)) [.val k2]
noncomputable def af113:AFunc:=.mk 2 (sq ([mc .nils 9])
 (.seq (sq ([ml 1,o2 (ls u0 (.c (iz 0))) 2])
 (.cond k2 (.ops [o1 (.mkIfc 9 (.c (.str 18 8838634371626034279618351153450530198413667))),o1 (.panic u0)]) .skip))
 (sq ([ml 0,o1 (ll u0),o1 (.convI .u64 u0),ml 1,o1 (.convI .u64 u0),o1 (cf 151 [u2,u0]),m0,ox 0,ox 1,mt 1 3,mt 1 4])
 (.seq (sq ([ml 3,o1 (gt u0 (.c (.int .u64 (.ofNat 0)))),m0,o3 (.move k4) 0 false,o3 (gt u0 (.c (.int .u64 (.ofNat 9223372036854775807)))) 1 false,o2 (pk u2 (.c (.bool true)) u0) 5])
 (.cond k5 (.ops [o1 (.mkIfc 9 (.c (.str 40 963418128638552869720407654453272125421877327008697887680703274632671259614598848762731909441652))),o1 (.panic u0)]) .skip))
 (sq ([ml 4,o1 (.convI .i64 u0),o1 (.mkSlice [(iz 0)] 8 u0 u0),mt 0 6])
 (sq ([ml 6,ml 0,o1 (.copy 1 u1 u0),mt 0 7])
 (.seq (.block 0 (.loop (.seq (sq ([ml 7,ml 6,o1 (ll u0),o2 (ls u2 u0) 8])
 (.cond k8 .skip (.exit 0)))
 (.block 1 (.ops [ml 7,ml 6,ml 7,o1 (.sliceV false 1 u1 (some u0) none none),ml 6,ml 7,o1 (.sliceV false 1 u1 none (some u0) none),o1 (.copy 1 u3 u0),o1 (ad u7 u0),mt 0 7])))))
 (sq ([ml 6,mt 0 9])
 .ret)))))))) [.val k9]
noncomputable def af114:AFunc:=.mk 2 (sq ([mc (.bool false) 2])
 (sq ([ml 0,ml 1,o1 (cf 152 [u1,u0]),o1 (ge u0 (.c (iz 0))),mt 0 2])
 .ret)) [.val k2]
noncomputable def af115:AFunc:=.mk 2 (sq ([o2 (.box k0) 2,mc (.bool false) 3])
 (sq ([o1 (ld k1),o1 (lN 5 k2),o1 (cf 116 [u1,u0]),o1 (.not u0),mt 0 3])
 .ret)) [.val k3]
noncomputable def af116:AFunc:=.mk 2 (sq ([o2 (.box k1) 2,mc (.bool false) 6])
 (.seq (sq ([o1 (fa 1 k2),o2 (ld u0) 3])
 (.block 0 (sq ([o1 (en k3 (.c (iz 1))),mt 0 4])
 (.cond k4 (sq ([ml 0,o1 (fa 3 k2),o1 (.idxAddrA 2 1 u0 (.c (iz 0))),o1 (ld u0),o1 (cf 153 [u3,u0]),m0,o3 (fa 3 k2) 0 true,o3 (.idxAddrA 2 1 u0 (.c (iz 1))) 1 true,o3 (ld u0) 2 true,o3 (en u0 (.c (iz 0))) 3 true,o1 (pk u4 u0 (.c (.bool false))),m0,o3 (fa 2 k2) 0 true,o3 (ld u0) 1 true,o3 (en u0 (.c (.int .i64 (.negSucc 0)))) 2 true,o1 (pk u3 u0 (.c (.bool false))),mt 0 6])
 .ret) (sq ([o1 (en k3 (.c (iz 2))),mt 0 5])
 (.cond k5 (sq ([ml 0,o1 (fa 3 k2),o1 (.idxAddrA 2 1 u0 (.c (iz 0))),o1 (ld u0),o1 (cf 153 [u3,u0]),m0,o3 (.move k0) 0 true,o3 (fa 3 k2) 1 true,o3 (.idxAddrA 2 1 u0 (.c (iz 1))) 2 true,o3 (ld u0) 3 true,o3 (cf 153 [u3,u0]) 4 true,o1 (pk u5 u0 (.c (.bool false))),m0,o3 (fa 3 k2) 0 true,o3 (.idxAddrA 2 1 u0 (.c (iz 0))) 1 true,o3 (ld u0) 2 true,o3 (fa 3 k2) 3 true,o3 (.idxAddrA 2 1 u0 (.c (iz 1))) 4 true,o3 (ld u0) 5 true,o3 (nn u3 u0) 6 true,o1 (pk u7 u0 (.c (.bool false))),mt 0 6])
 .ret) .skip))))))
 (sq ([o1 (fa 1 k2),o1 (ld u0),o1 (en u0 (.c (iz 3))),m0,o3 (fa 3 k2) 0 true,o3 (lN 2 u0) 1 true,o3 (.build [(iz 0),(iz 0)] []) 2 true,o3 (.eq false (.agg [.int,.int]) u1 u0) 3 true,o1 (pk u4 u0 (.c (.bool false))),mt 0 6])
 .ret))) [.val k6]
noncomputable def af117:AFunc:=.mk 2 (sq ([mc (.bool false) 2])
 (sq ([ml 0,ml 1,o1 (cf 154 [u1,u0]),o1 (ge u0 (.c (iz 0))),mt 0 2])
 .ret)) [.val k2]
noncomputable def af118:AFunc:=.mk 1 (sq ([o2 (.box k0) 1,mc .nils 2])
 (sq ([o1 (lN 6 k1),o1 (cf 155 [u0]),o1 (nc u0),o1 (fa 6 u0),o1 (ld u0),mt 0 2])
 .ret)) [.val k2]
noncomputable def af119:AFunc:=.mk 1 (sq ([o2 (.box k0) 1,mc .nilp 11])
 (.seq (sq ([o1 (fa 5 k1),o1 (ld u0),o1 (ll u0),o2 (en u0 (.c (iz 0))) 2])
 (.cond k2 (sq ([mc .nilp 11])
 .ret) .skip))
 (sq ([o1 (lN 6 k1),o1 (lN 6 k1),o1 (.bslice [(iz 0)] 1 [(.mk 0 1 (.c (.int .i64 (.negSucc 0))))]),o1 (fa 5 k1),o1 (ld u0),o1 (ll u0),o1 (.bslice [(iz 0)] 1 [(.mk 0 1 (.c (.int .i64 (.negSucc 0))))]),o1 (fa 5 k1),o1 (ld u0),o1 (ll u0),.mk (cf 156 [u9]) none none [.mk (ll u1) 0 none,.mk (ld u2) 1 none,.mk (ll u5) 4 none,.mk (ld u6) 5 none,.mk (lN 6 k1) 8 none],.mk (cf 44 [u9]) none none [.mk (ll u2) 1 none,.mk (ld u3) 2 none,.mk (ll u6) 5 none,.mk (ld u7) 6 none],.mk (cf 113 [u9,u6]) none none [.mk (ll u3) 2 none,.mk (ld u4) 3 none],o1 (cf 113 [u6,u3]),o1 (.build [.nils,.nils,.nils,.nils] [(.mk 0 1 u3),(.mk 2 1 u2),(.mk 1 1 u1),(.mk 3 1 u0)]),o1 (.box u0),mt 0 3])
 (.seq (sq ([ml 3,o1 (nc u0),o1 (fa 0 u0),o2 (ld u0) 7,o2 (ll u0) 5,mc (iz 0) 4])
 (.block 0 (.loop (sq ([o2 (ls k4 k5) 6])
 (.seq (.cond k6 .skip (.exit 0))
 (.seq (.block 1 (sq ([ml 4,o1 (ia 1 k7 k4),o1 (ld u0),mt 2 9,mt 1 8])
 (.ops [ml 3,o1 (nc u0),o1 (fa 1 u0),o1 (ld u0),ml 8,ml 9,o1 (ia 1 u2 u1),o1 (st 1 u0 u1)])))
 (.ops [o1 (ad k4 (.c (iz 1))),mt 0 4])))))))
 (sq ([ml 3,o1 (nc u0),o1 (fa 3 u0),o1 (ld u0),o1 (ia 1 u0 (.c (iz 0))),o1 (st 1 u0 (.c (iz 0)))])
 (.seq (.block 2 (.loop (.seq (sq ([ml 3,o2 (cf 157 [u0]) 10])
 (.cond k10 .skip (.exit 2)))
 (.block 3 .skip))))
 (sq ([ml 3,o1 (nc u0),o1 (fa 3 u0),o1 (ld u0),o1 (ia 1 u0 (.c (iz 0))),o1 (st 1 u0 (.c (.int .i64 (.negSucc 0))))])
 (sq ([ml 3,mt 0 11])
 .ret)))))))) [.val k11]
noncomputable def af120:AFunc:=.mk 1 (sq ([mc (iz 0) 6])
 (.seq (sq ([o2 (.move k0) 1])
 (.block 0 (.seq (sq ([o1 (en k1 (.c (iz 17))),mt 0 2])
 (.cond k2 .skip (sq ([o1 (en k1 (.c (iz 18))),mt 0 2])
 (.cond k2 .skip (sq ([o1 (en k1 (.c (iz 25))),mt 0 2])
 (.cond k2 .skip (sq ([o1 (en k1 (.c (iz 28))),mt 0 2])
 (.cond k2 .skip (sq ([o1 (en k1 (.c (iz 30))),mt 0 2])
 (.cond k2 .skip (.ops [o1 (en k1 (.c (iz 32))),mt 0 2])))))))))))
 (.cond k2 (sq ([mc (iz 1) 6])
 .ret) (sq ([o1 (en k1 (.c (iz 26))),mt 0 3])
 (.cond k3 (sq ([mc (iz 2) 6])
 .ret) (.seq (sq ([o1 (en k1 (.c (iz 20))),mt 0 4])
 (.cond k4 .skip (sq ([o1 (en k1 (.c (iz 21))),mt 0 4])
 (.cond k4 .skip (sq ([o1 (en k1 (.c (iz 22))),mt 0 4])
 (.cond k4 .skip (sq ([o1 (en k1 (.c (iz 23))),mt 0 4])
 (.cond k4 .skip (sq ([o1 (en k1 (.c (iz 24))),mt 0 4])
 (.cond k4 .skip (sq ([o1 (en k1 (.c (iz 27))),mt 0 4])
 (.cond k4 .skip (sq ([o1 (en k1 (.c (iz 29))),mt 0 4])
 (.cond k4 .skip (.ops [o1 (en k1 (.c (iz 33))),mt 0 4])))))))))))))))
 (.cond k4 (sq ([mc (iz 0) 6])
 .ret) .skip))))))))
 (.seq (sq ([ml 0,o1 (ge u0 (.c (iz 1))),m0,o3 (.move k0) 0 true,o3 (le u0 (.c (iz 16))) 1 true,o2 (pk u2 u0 (.c (.bool false))) 5])
 (.cond k5 (sq ([mc (iz 2) 6])
 .ret) .skip))
 (sq ([mc (.int .i64 (.negSucc 0)) 6])
 .ret)))) [.val k6]
noncomputable def af121:AFunc:=.mk 1 (sq ([mc (.bool false) 1])
 (sq ([ml 0,o1 (ge u0 (.c (iz 1))),m0,o3 (.move k0) 0 true,o3 (le u0 (.c (iz 34))) 1 true,o1 (pk u2 u0 (.c (.bool false))),m0,o3 (.move k0) 0 true,o3 (nn u0 (.c (iz 19))) 1 true,o1 (pk u2 u0 (.c (.bool false))),mt 0 1])
 .ret)) [.val k1]
noncomputable def af122:AFunc:=.mk 1 (sq ([o2 (.box k0) 1,mc (.bool false) 5])
 (.seq (sq ([o1 (fa 0 k1),o2 (ld u0) 2])
 (.block 0 (sq ([o1 (en k2 (.c (iz 24))),mt 0 3])
 (.cond k3 (sq ([mc (.bool true) 5])
 .ret) (.seq (sq ([o1 (en k2 (.c (iz 20))),mt 0 4])
 (.cond k4 .skip (sq ([o1 (en k2 (.c (iz 21))),mt 0 4])
 (.cond k4 .skip (sq ([o1 (en k2 (.c (iz 22))),mt 0 4])
 (.cond k4 .skip (sq ([o1 (en k2 (.c (iz 25))),mt 0 4])
 (.cond k4 .skip (sq ([o1 (en k2 (.c (iz 26))),mt 0 4])
 (.cond k4 .skip (sq ([o1 (en k2 (.c (iz 27))),mt 0 4])
 (.cond k4 .skip (sq ([o1 (en k2 (.c (iz 28))),mt 0 4])
 (.cond k4 .skip (sq ([o1 (en k2 (.c (iz 29))),mt 0 4])
 (.cond k4 .skip (sq ([o1 (en k2 (.c (iz 30))),mt 0 4])
 (.cond k4 .skip (.ops [o1 (en k2 (.c (iz 31))),mt 0 4])))))))))))))))))))
 (.cond k4 (sq ([o1 (fa 4 k1),o1 (ld u0),o1 (en u0 (.c (.str 0 0))),mt 0 5])
 .ret) .skip))))))
 (sq ([o1 (fa 4 k1),o1 (ld u0),o1 (en u0 (.c (.str 0 0))),m0,o3 (fa 3 k1) 0 true,o3 (ld u0) 1 true,o3 (en u0 (.c (iz 0))) 2 true,o1 (pk u3 u0 (.c (.bool false))),mt 0 5])
 .ret))) [.val k5]
noncomputable def af123:AFunc:=.mk 4 (sq ([o2 (.box k1) 5,mc (.bool false) 14])
 (sq ([ml 0,o1 (nc u0),o1 (fa 3 u0),o1 (fa 5 u0),o1 (ld u0),ml 2,o1 (ia 5 u1 u0),o1 (fa 0 u0),o1 (ld u0),mt 0 4])
 (.seq (sq ([ml 2,o1 (en u0 (.c (iz 0))),m0,o3 (.move k3) 0 false,o3 (gt u0 (.c (iz 0))) 1 false,o3 (.move u0) 2 false,o3 (.move k0) 0 true,o3 (nc u0) 1 true,o3 (fa 3 u0) 2 true,o3 (fa 4 u0) 3 true,o3 (ld u0) 4 true,o3 (.move k4) 5 true,o3 (.move k3) 6 true,o3 (sb u0 (.c (iz 1))) 7 true,o3 (ia 1 u2 u0) 8 true,o3 (ld u0) 9 true,o3 (ia 5 u5 u0) 10 true,o3 (fa 0 u0) 11 true,o3 (ld u0) 12 true,o3 (nn u0 (.c (iz 34))) 13 true,o3 (pk u14 u0 (.c (.bool false))) 17 false,o1 (pk u18 (.c (.bool true)) u0),m0,o3 (fa 2 k5) 0 false,o3 (ld u0) 1 false,o3 (ll u0) 2 false,o3 (.move k0) 3 false,o3 (nc u0) 4 false,o3 (fa 11 u0) 5 false,o3 (ld u0) 6 false,o3 (.move k2) 7 false,o3 (ia 1 u1 u0) 8 false,o3 (ld u0) 9 false,o3 (ll u0) 10 false,o3 (nn u8 u0) 11 false,o1 (pk u12 (.c (.bool true)) u0),m0,o3 (.move k0) 0 false,o3 (nc u0) 1 false,o3 (fa 0 u0) 2 false,o3 (fa 0 u0) 3 false,o3 (ld u0) 4 false,o3 (fa 1 k5) 5 false,o3 (ld u0) 6 false,o3 (cf 66 [u2,u0]) 7 false,o3 (.not u0) 8 false,o2 (pk u9 (.c (.bool true)) u0) 6])
 (.cond k6 (sq ([mc (.bool false) 14])
 .ret) .skip))
 (.seq (sq ([ml 0,o1 (nc u0),o1 (fa 11 u0),o1 (ld u0),ml 2,o1 (ia 1 u1 u0),o2 (ld u0) 10,o2 (ll u0) 8,mc (iz 0) 7])
 (.block 0 (.loop (sq ([o2 (ls k7 k8) 9])
 (.seq (.cond k9 .skip (.exit 0))
 (.seq (.block 1 (sq ([ml 7,o1 (ia 1 k10 k7),o1 (ld u0),mt 2 11,mt 1 12])
 (sq ([ml 0,o1 (fa 2 k5),o1 (ld u0),ml 11,o1 (ia 1 u1 u0),o1 (ld u0),ml 12,o1 (fa 1 k5),o1 (ld u0),.mk (cf 127 [u8,u3,u2]) none none [.mk (ld u1) 0 none],o2 (nn u0 u1) 13])
 (.cond k13 (sq ([mc (.bool false) 14])
 .ret) .skip))))
 (.ops [o1 (ad k7 (.c (iz 1))),mt 0 7])))))))
 (sq ([mc (.bool true) 14])
 .ret))))) [.val k14]
noncomputable def af124:AFunc:=.mk 4 (sq ([mc (.str 0 0) 7])
 (.seq (sq ([ml 1,o1 (ls u0 (.c (iz 0))),m0,o3 (.move k1) 0 false,o3 (.move k0) 1 false,o3 (nc u0) 2 false,o3 (fa 3 u0) 3 false,o3 (fa 4 u0) 4 false,o3 (ld u0) 5 false,o3 (ll u0) 6 false,o3 (ge u6 u0) 7 false,o1 (pk u8 (.c (.bool true)) u0),m0,o3 (.move k0) 0 false,o3 (nc u0) 1 false,o3 (fa 9 u0) 2 false,o3 (ld u0) 3 false,o3 (.move k1) 4 false,o3 (ia 1 u1 u0) 5 false,o3 (ld u0) 6 false,o3 (en u0 (.c (.int .i64 (.negSucc 0)))) 7 false,o2 (pk u8 (.c (.bool true)) u0) 4])
 (.cond k4 (sq ([mc (.str 0 0) 7])
 .ret) .skip))
 (sq ([ml 0,o1 (nc u0),o1 (fa 9 u0),o1 (ld u0),ml 1,o1 (ia 1 u1 u0),o1 (ld u0),ml 2,o1 (en u1 u0),m0,o3 (.move k0) 0 true,o3 (nc u0) 1 true,o3 (fa 10 u0) 2 true,o3 (ld u0) 3 true,o3 (.move k1) 4 true,o3 (ia 1 u1 u0) 5 true,o3 (ld u0) 6 true,o3 (.move k3) 7 true,o3 (ls u1 u0) 8 true,o1 (pk u9 u0 (.c (.bool false))),m0,o3 (.move k0) 0 false,o3 (nc u0) 1 false,o3 (fa 9 u0) 2 false,o3 (ld u0) 3 false,o3 (.move k1) 4 false,o3 (ia 1 u1 u0) 5 false,o3 (ld u0) 6 false,o3 (.move k2) 7 false,o3 (nn u1 u0) 8 false,o3 (.move u0) 9 false,o3 (.move k0) 0 true,o3 (.move k0) 1 true,o3 (nc u0) 2 true,o3 (fa 9 u0) 3 true,o3 (ld u0) 4 true,o3 (.move k1) 5 true,o3 (ia 1 u1 u0) 6 true,o3 (ld u0) 7 true,o3 (.move k2) 8 true,o3 (cf 158 [u8,u1,u0]) 9 true,o3 (pk u10 u0 (.c (.bool false))) 20 false,o1 (pk u21 (.c (.bool true)) u0),mt 0 5])
 (.seq (sq ([ml 5,o2 (.not u0) 6])
 (.cond k6 (sq ([mc (.str 0 0) 7])
 .ret) .skip))
 (sq ([ml 0,o1 (nc u0),o1 (fa 3 u0),o1 (fa 4 u0),o1 (ld u0),ml 1,o1 (ia 5 u1 u0),o1 (fa 1 u0),o1 (ld u0),mt 0 7])
 .ret))))) [.val k7]
noncomputable def af125:AFunc:=.mk 2 (sq ([mc (.bool false) 2])
 (sq ([ml 0,ml 1,o1 (cf 159 [u1,u0]),o1 (ge u0 (.c (iz 0))),mt 0 2])
 .ret)) [.val k2]
noncomputable def af126:AFunc:=.mk 3 (sq ([o2 (.box k1) 3,mc (.bool false) 11])
 (.seq (.block 0 (sq ([o1 (fa 0 k3),o1 (ld u0),o1 (le u0 (.c (iz 18))),mt 0 4])
 (.cond k4 (sq ([o1 (lN 5 k3),ml 2,o1 (cf 160 [u1,u0]),mt 0 11])
 .ret) (sq ([o1 (fa 0 k3),o1 (ld u0),o1 (en u0 (.c (iz 25))),mt 0 5])
 (.cond k5 (sq ([o1 (fa 1 k3),o1 (ld u0),o1 (nn u0 (.c (.str 0 0))),m0,o3 (fa 1 k3) 0 true,o3 (ld u0) 1 true,o3 (.move k0) 2 true,o3 (.move k2) 3 true,o3 (ia 1 u0 (.c (iz 0))) 4 true,o3 (ld u0) 5 true,o3 (fa 3 k3) 6 true,o3 (ld u0) 7 true,.mk (cf 161 [u5,u2,u0]) (some (u8,true)) none [.mk (ld u7) 6 (some (u8,true))],o3 (en u7 u0) 9 true,o1 (pk u10 u0 (.c (.bool false))),mt 0 11])
 .ret) (sq ([o1 (fa 0 k3),o1 (ld u0),o1 (en u0 (.c (iz 26))),mt 0 6])
 (.cond k6 (sq ([o1 (fa 1 k3),o1 (ld u0),o1 (en u0 (.c (.str 0 0))),m0,o3 (.move k2) 0 true,o3 (ia 1 u0 (.c (iz 1))) 1 true,o3 (ld u0) 2 true,o3 (.move k0) 3 true,o3 (.move k2) 4 true,o3 (ia 1 u0 (.c (iz 0))) 5 true,o3 (ld u0) 6 true,o3 (fa 3 k3) 7 true,o3 (ld u0) 8 true,.mk (cf 161 [u5,u2,u0]) (some (u9,true)) none [.mk (ld u7) 6 (some (u9,true))],o3 (en u7 u0) 10 true,o1 (pk u11 u0 (.c (.bool false))),mt 0 11])
 .ret) (sq ([o1 (fa 0 k3),o1 (ld u0),o1 (en u0 (.c (iz 28))),mt 0 7])
 (.cond k7 (sq ([o1 (lN 5 k3),ml 2,ml 0,o1 (nc u0),o1 (fa 3 u0),o1 (fa 3 u0),o1 (ld u0),o1 (fa 3 k3),o1 (ld u0),.mk (cf 163 [u2,u0]) none none [.mk (lN 5 k3) 8 none],o1 (.bslice [(.str 0 0)] 1 [(.mk 0 1 u0)]),o1 (cf 162 [u10,(.c (.str 0 0)),u9,u0]),mt 0 11])
 .ret) (sq ([o1 (fa 0 k3),o1 (ld u0),o1 (en u0 (.c (iz 30))),mt 0 8])
 (.cond k8 (sq ([o1 (lN 5 k3),ml 2,ml 0,o1 (fa 3 k3),o1 (ld u0),.mk (cf 164 [u2,u0]) none none [.mk (lN 5 k3) 4 none],o1 (.bslice [(.str 0 0)] 1 [(.mk 0 1 u0)]),o1 (cf 162 [u6,(.c (.str 0 0)),u5,u0]),mt 0 11])
 .ret) (sq ([o1 (fa 0 k3),o1 (ld u0),o1 (en u0 (.c (iz 32))),mt 0 9])
 (.cond k9 (sq ([o1 (lN 5 k3),ml 2,o1 (.bslice [(.str 0 0)] 1 [(.mk 0 1 (.c (.str 3 7630441)))]),o1 (cf 162 [u2,(.c (.str 0 0)),u1,u0]),mt 0 11])
 .ret) (sq ([o1 (fa 0 k3),o1 (ld u0),o1 (en u0 (.c (iz 31))),mt 0 10])
 (.cond k10 (sq ([ml 0,o1 (lN 5 k3),ml 2,o1 (cf 165 [u2,u1,u0]),mt 0 11])
 .ret) .skip)))))))))))))))
 (sq ([ml 0,o1 (lN 5 k3),o1 (cf 166 [u1,u0]),mt 0 11])
 .ret))) [.val k11]
noncomputable def af127:AFunc:=.mk 3 (sq ([mc (.str 0 0) 3])
 (sq ([ml 0,ml 1,ml 2,ml 0,o1 (nc u0),o1 (fa 3 u0),o1 (fa 5 u0),o1 (ld u0),ml 2,o1 (ia 5 u1 u0),o1 (fa 0 u0),o1 (ld u0),o1 (ll u0),o1 (cf 124 [u12,u11,u10,u0]),mt 0 3])
 .ret)) [.val k3]
noncomputable def af128:AFunc:=.mk 1 (sq ([mc .nils 9])
 (.seq (sq ([ml 0,o1 (ll u0),o2 (ls u0 (.c (iz 2))) 1])
 (.cond k1 (sq ([ml 0,mt 0 9])
 .ret) .skip))
 (.seq (sq ([mc (iz 1) 2])
 (.block 0 (.loop (.seq (sq ([ml 2,ml 0,o1 (ll u0),o2 (ls u2 u0) 3])
 (.cond k3 .skip (.exit 0)))
 (.seq (.block 1 (sq ([ml 0,ml 2,o1 (ia 1 u1 u0),o1 (ld u0),ml 0,ml 2,o1 (sb u0 (.c (iz 1))),o1 (ia 1 u2 u0),o1 (ld u0),o2 (en u5 u0) 4])
 (.cond k4 (sq ([ml 0,ml 2,o1 (.sliceV true 1 u1 (some u0) none none),mt 0 6])
 (.seq (sq ([mc (iz 1) 5])
 (.block 2 (.loop (.seq (sq ([ml 5,ml 6,o1 (ll u0),o2 (ls u2 u0) 7])
 (.cond k7 .skip (.exit 2)))
 (.seq (.block 3 (sq ([ml 6,ml 5,o1 (ia 1 u1 u0),o1 (ld u0),ml 6,ml 5,o1 (sb u0 (.c (iz 1))),o1 (ia 1 u2 u0),o1 (ld u0),o2 (nn u5 u0) 8])
 (.cond k8 (sq ([ml 0,ml 2,ml 6,ml 5,o1 (ia 1 u1 u0),o1 (ld u0),o1 (ia 1 u5 u4),o1 (st 1 u0 u1)])
 (.ops [ml 2,o1 (ad u0 (.c (iz 1))),mt 0 2])) .skip)))
 (.ops [ml 5,o1 (ad u0 (.c (iz 1))),mt 0 5]))))))
 (sq ([ml 0,ml 2,o1 (.sliceV true 1 u1 (some u0) none none),o1 (.clear [(iz 0)] u0)])
 (sq ([ml 0,ml 2,o1 (.sliceV true 1 u1 none (some u0) none),mt 0 9])
 .ret)))) .skip)))
 (.ops [ml 2,o1 (ad u0 (.c (iz 1))),mt 0 2]))))))
 (sq ([ml 0,mt 0 9])
 .ret)))) [.val k9]
noncomputable def af129:AFunc:=.mk 2 (sq ([mc .nils 8])
 (sq ([ml 0,ml 1,o1 (cf 167 [u1,u0]),mt 0 2])
 (.seq (sq ([ml 2,o2 (en u0 (.c (.int .i64 (.negSucc 0)))) 3])
 (.cond k3 (sq ([ml 0,mt 0 8])
 .ret) .skip))
 (.seq (sq ([ml 2,o1 (ad u0 (.c (iz 1))),mt 0 4])
 (.block 0 (.loop (.seq (sq ([ml 4,ml 0,o1 (ll u0),o2 (ls u2 u0) 5])
 (.cond k5 .skip (.exit 0)))
 (.seq (.block 1 (sq ([ml 0,ml 4,o1 (ia 1 u1 u0),o1 (ld u0),mt 0 6])
 (sq ([ml 1,ml 6,o1 (.callV u1 [u0]),o2 (.not u0) 7])
 (.cond k7 (sq ([ml 0,ml 2,ml 6,o1 (ia 1 u2 u1),o1 (st 1 u0 u1)])
 (.ops [ml 2,o1 (ad u0 (.c (iz 1))),mt 0 2])) .skip))))
 (.ops [ml 4,o1 (ad u0 (.c (iz 1))),mt 0 4]))))))
 (sq ([ml 0,ml 2,o1 (.sliceV true 1 u1 (some u0) none none),o1 (.clear [(iz 0)] u0)])
 (sq ([ml 0,ml 2,o1 (.sliceV true 1 u1 none (some u0) none),mt 0 8])
 .ret)))))) [.val k8]
noncomputable def af130:AFunc:=.mk 2 (sq ([mc (.bool false) 2])
 (sq ([ml 0,o1 (ls u0 (.c (iz 0))),m0,o3 (.move k0) 0 false,o3 (fa 5 k1) 1 false,o3 (ld u0) 2 false,o3 (ll u0) 3 false,o3 (ge u3 u0) 4 false,o1 (pk u5 (.c (.bool true)) u0),mt 0 2])
 .ret)) [.val k2]
noncomputable def af132:AFunc:=.mk 2 (sq ([mc .nils 10])
 (sq ([mc .nils 8])
 (.seq (sq ([o2 (.move k0) 5,o2 (ll u0) 3,mc (iz 0) 2])
 (.block 0 (.loop (sq ([o2 (ls k2 k3) 4])
 (.seq (.cond k4 .skip (.exit 0))
 (.seq (.block 1 (sq ([ml 2,o1 (ia 1 k5 k2),o1 (ld u0),mt 2 6,mt 1 9])
 (sq ([ml 1,ml 6,o1 (.callV u1 [u0]),o2 (cf 170 [u0]) 7])
 (.cond k7 (.ops [ml 8,ml 9,o1 (.bslice [(iz 0)] 1 [(.mk 0 1 u0)]),o1 (ap 1 8 u2 u0),mt 0 8]) .skip))))
 (.ops [o1 (ad k2 (.c (iz 1))),mt 0 2])))))))
 (sq ([ml 8,mt 0 10])
 .ret)))) [.val k10]
noncomputable def af136:AFunc:=.mk 1 (sq ([mc (iz 0) 2])
 (.seq (sq ([ml 0,o2 (.eq false .ptr u0 (.c .nilp)) 1])
 (.cond k1 (sq ([mc (iz 0) 2])
 .ret) .skip))
 (sq ([ml 0,ml 0,o1 (nc u0),o1 (fa 2 u0),o1 (ld u0),o1 (.bslice [(.bool false)] 1 [(.mk 0 1 (.c (.bool true)))]),o1 (ap 1 1 u1 u0),o1 (nc u6),o1 (fa 2 u0),o1 (st 1 u0 u2)])
 (sq ([ml 0,o1 (nc u0),o1 (fa 2 u0),o1 (ld u0),o1 (ll u0),mt 0 2])
 .ret)))) [.val k2]
noncomputable def af137:AFunc:=.mk 4 (sq ([mc (iz 0) 15,mc (iz 0) 16])
 (sq ([ml 0,ml 1,ml 2,ml 3,o1 (cf 173 [u3,u2,u1,u0])])
 (sq ([ml 0,o1 (nc u0),o1 (fa 0 u0),o1 (fa 2 u0),o1 (ld u0),ml 1,o1 (nc u0),o1 (fa 0 u0),o1 (ld u0),o1 (ia 6 u4 u0),o1 (lN 6 u0),o2 (.alloc [(.str 0 0),.nils,(.str 0 0),.nils,.nils,.nils]) 4,o1 (st 6 u0 u1)])
 (sq ([o1 (fa 5 k4),o1 (ld u0),ml 2,o1 (ia 5 u1 u0),o1 (lN 5 u0),o2 (.alloc [.nils,(iz 0),(iz 0),(iz 0),(iz 0)]) 5,o1 (st 5 u0 u1)])
 (.seq (sq ([o1 (fa 0 k5),o2 (ld u0) 9,o2 (ll u0) 7,mc (iz 0) 6])
 (.block 0 (.loop (sq ([o2 (ls k6 k7) 8])
 (.seq (.cond k8 .skip (.exit 0))
 (.seq (.block 1 (sq ([o1 (ia 1 k9 k6),o1 (ld u0),mt 0 10])
 (.seq (sq ([o1 (fa 4 k4),o1 (ld u0),ml 10,o1 (ia 5 u1 u0),o1 (fa 0 u0),o1 (ld u0),o2 (en u0 (.c (iz 34))) 11])
 (.cond k11 (.exit 1) .skip))
 (sq ([ml 0,o1 (cf 174 [u0])])
 (sq ([ml 1,o1 (nc u0),o1 (fa 3 u0),o1 (ld u0),ml 10,ml 0,ml 1,ml 10,.mk (cf 175 [u2,u1,u0]) none none [.mk (ld u5) 4 none],o1 (ia 1 u5 u4),o1 (st 1 u0 u1)])
 (.ops [ml 1,o1 (nc u0),o1 (fa 4 u0),o1 (ld u0),ml 10,o1 (ia 1 u1 u0),o1 (st 1 u0 (.c (.bool true)))]))))))
 (.ops [o1 (ad k6 (.c (iz 1))),mt 0 6])))))))
 (sq ([ml 0,o1 (cf 174 [u0])])
 (.seq (.block 2 (sq ([o1 (fa 1 k5),o1 (ld u0),o1 (en u0 (.c (iz 1))),m0,o3 (fa 1 k5) 0 false,o3 (ld u0) 1 false,o3 (en u0 (.c (iz 2))) 2 false,o3 (.move u0) 3 false,o3 (.move k1) 0 true,o3 (nc u0) 1 true,o3 (fa 3 u0) 2 true,o3 (ld u0) 3 true,o3 (fa 2 k5) 4 true,o3 (ld u0) 5 true,o3 (ia 1 u2 u0) 6 true,o3 (ld u0) 7 true,o3 (nn u0 (.c (iz 0))) 8 true,o3 (pk u9 u0 (.c (.bool false))) 13 false,o1 (pk u14 (.c (.bool true)) u0),mt 0 12])
 (.cond k12 (sq ([o1 (fa 3 k5),o1 (.idxAddrA 2 1 u0 (.c (iz 0))),o1 (ld u0),mt 0 15,mc (iz 0) 16])
 .ret) (sq ([o1 (fa 1 k5),o1 (ld u0),o1 (en u0 (.c (iz 2))),mt 0 13])
 (.cond k13 (sq ([o1 (fa 3 k5),o1 (.idxAddrA 2 1 u0 (.c (iz 1))),o1 (ld u0),mt 0 15,mc (iz 0) 16])
 .ret) (sq ([o1 (fa 2 k5),o1 (ld u0),o1 (ge u0 (.c (iz 0))),mt 0 14])
 (.cond k14 (sq ([ml 1,o1 (nc u0),o1 (fa 3 u0),o1 (ld u0),o1 (fa 2 k5),o1 (ld u0),o1 (ia 1 u2 u0),o1 (ld u0),mc (.int .i64 (.negSucc 0)) 15,mt 1 16])
 .ret) .skip)))))))
 (sq ([mc (.int .i64 (.negSucc 0)) 15,mc (iz 0) 16])
 .ret)))))))) [.val k15,.val k16]
noncomputable def af138:AFunc:=.mk 3 (sq ([ml 0,o1 (nc u0),o1 (fa 0 u0),o1 (fa 2 u0),o1 (ld u0),ml 1,o1 (nc u0),o1 (fa 0 u0),o1 (ld u0),o1 (ia 6 u4 u0),o1 (lN 6 u0),o2 (.alloc [(.str 0 0),.nils,(.str 0 0),.nils,.nils,.nils]) 3,o1 (st 6 u0 u1)])
 (sq ([ml 1,o1 (nc u0),o1 (fa 2 u0),o1 (ld u0),o1 (.mkFn 176 [] [k3]),o1 (cf 132 [u1,u0]),mt 0 5])
 (.seq (sq ([o1 (fa 2 k3),o1 (ld u0),o2 (cf 170 [u0]) 4])
 (.cond k4 (.ops [ml 5,ml 2,o1 (.bslice [(iz 0)] 1 [(.mk 0 1 u0)]),o1 (ap 1 8 u2 u0),mt 0 5]) .skip))
 (sq ([ml 0,ml 0,o1 (nc u0),o1 (fa 13 u0),o1 (ld u0),ml 0,o1 (nc u0),o1 (fa 13 u0),o1 (ld u0),o1 (ll u0),o1 (sb u0 (.c (iz 1))),o1 (.sliceV false 1 u6 none (some u0) none),o1 (nc u11),o1 (fa 13 u0),o1 (st 1 u0 u2)])
 (sq ([ml 0,ml 1,o1 (nc u0),o1 (fa 0 u0),o1 (ld u0),ml 1,o1 (nc u0),o1 (fa 1 u0),o1 (ld u0),ml 5,ml 0,o1 (nc u0),o1 (fa 13 u0),o1 (ld u0),o1 (cf 78 [u13,(.c (iz 2)),u9,u5,u4,u0])])
 (.ops [ml 0,o1 (nc u0),o1 (fa 5 u0),o1 (ld u0),ml 1,o1 (nc u0),o1 (fa 1 u0),o1 (ld u0),o1 (cf 177 [u4,u0])])))))) []
noncomputable def af141:AFunc:=.mk 3 (sq ([o2 (.box k2) 3,mc (iz 0) 7])
 (.seq (.block 0 (sq ([o1 (fa 0 k3),o1 (ld u0),o1 (cf 65 [u0]),o1 (.not u0),mt 0 4])
 (.cond k4 (sq ([mc (iz 1) 7])
 .ret) (sq ([ml 1,o1 (.mkFn 179 [] [k3]),o1 (cf 178 [u1,u0]),mt 0 5])
 (.cond k5 (sq ([mc (iz 6) 7])
 .ret) (sq ([ml 0,o1 (fa 1 k3),o1 (ld u0),o1 (cf 66 [u2,u0]),o1 (.not u0),mt 0 6])
 (.cond k6 (sq ([mc (iz 7) 7])
 .ret) .skip)))))))
 (sq ([mc (iz 0) 7])
 .ret))) [.val k7]
noncomputable def af142:AFunc:=.mk 1 (sq ([mc (.bool false) 1])
 (sq ([ml 0,o1 (ge u0 (.c (.int .u8 (.ofNat 97)))),m0,o3 (.move k0) 0 true,o3 (le u0 (.c (.int .u8 (.ofNat 122)))) 1 true,o1 (pk u2 u0 (.c (.bool false))),m0,o3 (.move k0) 0 false,o3 (ge u0 (.c (.int .u8 (.ofNat 65)))) 1 false,o3 (.move u0) 2 false,o3 (.move k0) 0 true,o3 (le u0 (.c (.int .u8 (.ofNat 90)))) 1 true,o3 (pk u2 u0 (.c (.bool false))) 5 false,o1 (pk u6 (.c (.bool true)) u0),m0,o3 (.move k0) 0 false,o3 (en u0 (.c (.int .u8 (.ofNat 95)))) 1 false,o1 (pk u2 (.c (.bool true)) u0),mt 0 1])
 .ret)) [.val k1]
noncomputable def af143:AFunc:=.mk 2 (sq ([mc (iz 0) 4])
 (sq ([mc (iz 0) 2])
 (.seq (.block 0 (.loop (.seq (sq ([ml 2,ml 0,o1 (lt u0),o1 (ls u2 u0),m0,o3 (.move k1) 0 true,o3 (.move k0) 1 true,o3 (.move k2) 2 true,o3 (.idxS u1 u0) 3 true,o3 (.callV u3 [u0]) 4 true,o2 (pk u5 u0 (.c (.bool false))) 3])
 (.cond k3 .skip (.exit 0)))
 (.block 1 (.ops [ml 2,o1 (ad u0 (.c (iz 1))),mt 0 2])))))
 (sq ([ml 2,mt 0 4])
 .ret)))) [.val k4]
noncomputable def af144:AFunc:=.mk 1 (sq ([mc (.bool false) 1])
 (sq ([ml 0,o1 (cf 142 [u0]),m0,o3 (.move k0) 0 false,o3 (cf 145 [u0]) 1 false,o1 (pk u2 (.c (.bool true)) u0),mt 0 1])
 .ret)) [.val k1]
noncomputable def af145:AFunc:=.mk 1 (sq ([mc (.bool false) 1])
 (sq ([ml 0,o1 (ge u0 (.c (.int .u8 (.ofNat 48)))),m0,o3 (.move k0) 0 true,o3 (le u0 (.c (.int .u8 (.ofNat 57)))) 1 true,o1 (pk u2 u0 (.c (.bool false))),mt 0 1])
 .ret)) [.val k1]
noncomputable def af146:AFunc:=.mk 0 (sq ([mc .nils 0])
 (sq ([o1 (.bslice [(.str 0 0),(.str 0 0),(.str 0 0),(.str 0 0),(.str 0 0),(.str 0 0),(.str 0 0),(.str 0 0),(.str 0 0),(.str 0 0),(.str 0 0),(.str 0 0),(.str 0 0),(.str 0 0),(.str 0 0),(.str 0 0)] 16 [(.mk 0 1 (.c (.str 4 1701869940))),(.mk 1 1 (.c (.str 6 127970521019507))),(.mk 2 1 (.c (.str 4 1668183398))),(.mk 3 1 (.c (.str 3 7496054))),(.mk 4 1 (.c (.str 2 26217))),(.mk 5 1 (.c (.str 4 1702063205))),(.mk 6 1 (.c (.str 3 7499622))),(.mk 7 1 (.c (.str 6 121437875889522))),(.mk 8 1 (.c (.str 5 500068610672))),(.mk 9 1 (.c (.str 3 7824750))),(.mk 10 1 (.c (.str 3 7104878))),(.mk 11 1 (.c (.str 4 1702195828))),(.mk 12 1 (.c (.str 5 435728179558))),(.mk 13 1 (.c (.str 3 7630441))),(.mk 14 1 (.c (.str 4 1819242338))),(.mk 15 1 (.c (.str 4 1684104562)))]),mt 0 0])
 .ret)) [.val k0]
noncomputable def af147:AFunc:=.mk 2 (sq ([mc (.str 0 0) 3,mc (.bool false) 4])
 (.seq (sq ([ml 0,ml 1,o1 (cf 180 [u1,u0]),o2 (.not u0) 2])
 (.cond k2 (sq ([ml 0,mt 0 3,mc (.bool false) 4])
 .ret) .skip))
 (sq ([ml 0,ml 1,o1 (lt u0),o1 (.sliceS u2 (some u0) none),mt 0 3,mc (.bool true) 4])
 .ret))) [.val k3,.val k4]
noncomputable def af148:AFunc:=.mk 2 (sq ([mc (iz 0) 7])
 (.seq (sq ([ml 0,o2 (ll u0) 3,mc (iz 0) 2])
 (.block 0 (.loop (sq ([o2 (ls k2 k3) 4])
 (.seq (.cond k4 .skip (.exit 0))
 (.seq (.block 1 (sq ([ml 2,mt 0 5])
 (sq ([ml 1,ml 0,ml 5,o1 (ia 2 u1 u0),o1 (lN 2 u0),o2 (.callV u4 [u0]) 6])
 (.cond k6 (sq ([ml 5,mt 0 7])
 .ret) .skip))))
 (.ops [o1 (ad k2 (.c (iz 1))),mt 0 2])))))))
 (sq ([mc (.int .i64 (.negSucc 0)) 7])
 .ret))) [.val k7]
noncomputable def af149:AFunc:=.mk 2 (sq ([o2 (.box k0) 2,mc (.bool false) 3])
 (sq ([o1 (fa 0 k2),o1 (ld u0),o1 (ld k1),o1 (en u1 u0),mt 0 3])
 .ret)) [.val k3]
noncomputable def af150:AFunc:=.mk 2 (sq ([mc (iz 0) 7])
 (.seq (sq ([ml 0,o2 (ll u0) 3,mc (iz 0) 2])
 (.block 0 (.loop (sq ([o2 (ls k2 k3) 4])
 (.seq (.cond k4 .skip (.exit 0))
 (.seq (.block 1 (sq ([ml 2,mt 0 5])
 (sq ([ml 1,ml 0,ml 5,o1 (ia 1 u1 u0),o1 (ld u0),o2 (.callV u4 [u0]) 6])
 (.cond k6 (sq ([ml 5,mt 0 7])
 .ret) .skip))))
 (.ops [o1 (ad k2 (.c (iz 1))),mt 0 2])))))))
 (sq ([mc (.int .i64 (.negSucc 0)) 7])
 .ret))) [.val k7]
noncomputable def af151:AFunc:=.mk 2 (sq ([mc (.int .u64 (.ofNat 0)) 6,mc (.int .u64 (.ofNat 0)) 7])
 (.seq (.cond (.c (.bool false)) (sq ([ml 0,o1 (.convI .u32 u0),ml 1,o1 (.convI .u32 u0),o1 (cf 181 [u2,u0]),m0,ox 0,ox 1,mt 1 2,mt 1 3])
 (sq ([ml 2,o1 (.convI .u64 u0),ml 3,o1 (.convI .u64 u0),mt 2 6,mt 1 7])
 .ret)) .skip)
 (sq ([ml 0,ml 1,o1 (cf 182 [u1,u0]),m0,ox 0,ox 1,mt 1 4,mt 1 5])
 (sq ([ml 4,ml 5,mt 1 6,mt 1 7])
 .ret)))) [.val k6,.val k7]
noncomputable def af152:AFunc:=.mk 2 (sq ([mc (iz 0) 7])
 (.seq (sq ([ml 0,o2 (ll u0) 3,mc (iz 0) 2])
 (.block 0 (.loop (sq ([o2 (ls k2 k3) 4])
 (.seq (.cond k4 .skip (.exit 0))
 (.seq (.block 1 (sq ([ml 2,mt 0 5])
 (sq ([ml 1,ml 0,ml 5,o1 (ia 5 u1 u0),o1 (lN 5 u0),o2 (.callV u4 [u0]) 6])
 (.cond k6 (sq ([ml 5,mt 0 7])
 .ret) .skip))))
 (.ops [o1 (ad k2 (.c (iz 1))),mt 0 2])))))))
 (sq ([mc (.int .i64 (.negSucc 0)) 7])
 .ret))) [.val k7]
noncomputable def af153:AFunc:=.mk 2 (sq ([mc (.bool false) 2])
 (sq ([ml 1,o1 (gt u0 (.c (iz 0))),m0,o3 (.move k1) 0 true,o3 (.move k0) 1 true,o3 (nc u0) 2 true,o3 (fa 3 u0) 3 true,o3 (fa 5 u0) 4 true,o3 (ld u0) 5 true,o3 (ll u0) 6 true,o3 (ls u6 u0) 7 true,o1 (pk u8 u0 (.c (.bool false))),mt 0 2])
 .ret)) [.val k2]
noncomputable def af154:AFunc:=.mk 2 (sq ([mc (iz 0) 7])
 (.seq (sq ([ml 0,o2 (ll u0) 3,mc (iz 0) 2])
 (.block 0 (.loop (sq ([o2 (ls k2 k3) 4])
 (.seq (.cond k4 .skip (.exit 0))
 (.seq (.block 1 (sq ([ml 2,mt 0 5])
 (sq ([ml 1,ml 0,ml 5,o1 (ia 1 u1 u0),o1 (ld u0),o2 (.eq false .bool u4 u0) 6])
 (.cond k6 (sq ([ml 5,mt 0 7])
 .ret) .skip))))
 (.ops [o1 (ad k2 (.c (iz 1))),mt 0 2])))))))
 (sq ([mc (.int .i64 (.negSucc 0)) 7])
 .ret))) [.val k7]
noncomputable def af155:AFunc:=.mk 1 (sq ([o2 (.box k0) 1,mc .nilp 4])
 (sq ([o1 (lN 6 k1),o1 (fa 5 k1),o1 (ld u0),o1 (ll u0),o1 (.mkSlice [(.bool false)] 1 u0 u0),o1 (.build [(.str 0 0),.nils,(.str 0 0),.nils,.nils,.nils,.nils,.nils] [(.mk 0 6 u4),(.mk 6 1 u0)]),o1 (.box u0),mt 0 3])
 (.seq (sq ([o1 (fa 5 k1),o1 (ld u0),o1 (ll u0),o2 (gt u0 (.c (iz 0))) 2])
 (.cond k2 (.ops [ml 3,o1 (cf 183 [u0,(.c (iz 0))])]) .skip))
 (sq ([ml 3,mt 0 4])
 .ret)))) [.val k4]
noncomputable def af156:AFunc:=.mk 1 (sq ([o2 (.box k0) 1,mc .nils 3])
 (sq ([o1 (lN 6 k1),o1 (cf 155 [u0]),o1 (nc u0),o1 (fa 7 u0),o1 (ld u0),mt 0 2])
 (sq ([ml 2,o1 (cf 184 [u0])])
 (sq ([ml 2,mt 0 3])
 .ret)))) [.val k3]
noncomputable def af157:AFunc:=.mk 1 (sq ([mc (.bool false) 15])
 (sq ([mc (.bool false) 14])
 (.seq (sq ([ml 0,o1 (nc u0),o1 (fa 0 u0),o1 (ld u0),o2 (.sliceV true 1 u0 (some (.c (iz 1))) none none) 4,o2 (ll u0) 2,mc (iz 0) 1])
 (.block 0 (.loop (sq ([o2 (ls k1 k2) 3])
 (.seq (.cond k3 .skip (.exit 0))
 (.seq (.block 1 (sq ([o1 (ia 1 k4 k1),o1 (ld u0),mt 0 5])
 (sq ([mc (.int .i64 (.negSucc 0)) 12])
 (.seq (sq ([ml 0,o1 (nc u0),o1 (fa 2 u0),o1 (ld u0),ml 5,o1 (ia 1 u1 u0),o2 (ld u0) 9,o2 (ll u0) 7,mc (iz 0) 6])
 (.block 2 (.loop (sq ([o2 (ls k6 k7) 8])
 (.seq (.cond k8 .skip (.exit 2))
 (.seq (.block 3 (sq ([o1 (ia 1 k9 k6),o1 (ld u0),mt 0 10])
 (.block 4 (sq ([ml 0,o1 (nc u0),o1 (fa 1 u0),o1 (ld u0),ml 10,o1 (ia 1 u1 u0),o1 (ld u0),o1 (en u0 (.c (.int .i64 (.negSucc 0)))),m0,o3 (.move k0) 0 false,o3 (nc u0) 1 false,o3 (fa 3 u0) 2 false,o3 (ld u0) 3 false,o3 (.move k10) 4 false,o3 (ia 1 u1 u0) 5 false,o3 (ld u0) 6 false,o3 (en u0 (.c (.int .i64 (.negSucc 0)))) 7 false,o1 (pk u8 (.c (.bool true)) u0),mt 0 11])
 (.cond k11 .skip (sq ([ml 12,o1 (en u0 (.c (.int .i64 (.negSucc 0)))),mt 0 13])
 (.cond k13 (.ops [ml 10,mt 0 12]) (.ops [ml 0,ml 12,ml 10,o1 (cf 185 [u2,u1,u0]),mt 0 12]))))))))
 (.ops [o1 (ad k6 (.c (iz 1))),mt 0 6])))))))
 (sq ([ml 14,m0,o3 (.move k0) 0 false,o3 (nc u0) 1 false,o3 (fa 3 u0) 2 false,o3 (ld u0) 3 false,o3 (.move k5) 4 false,o3 (ia 1 u1 u0) 5 false,o3 (ld u0) 6 false,o3 (.move k12) 7 false,o3 (nn u1 u0) 8 false,o1 (pk u9 (.c (.bool true)) u0),mt 0 14])
 (.ops [ml 0,o1 (nc u0),o1 (fa 3 u0),o1 (ld u0),ml 5,ml 12,o1 (ia 1 u2 u1),o1 (st 1 u0 u1)]))))))
 (.ops [o1 (ad k1 (.c (iz 1))),mt 0 1])))))))
 (sq ([ml 14,mt 0 15])
 .ret)))) [.val k15]
noncomputable def af158:AFunc:=.mk 3 (sq ([mc (.bool false) 4])
 (.seq (.block 0 (.loop (.seq (sq ([ml 2,o1 (nn u0 (.c (.int .i64 (.negSucc 0)))),m0,o3 (.move k2) 0 true,o3 (.move k1) 1 true,o3 (nn u1 u0) 2 true,o2 (pk u3 u0 (.c (.bool false))) 3])
 (.cond k3 .skip (.exit 0)))
 (.block 1 (.ops [ml 0,o1 (nc u0),o1 (fa 12 u0),o1 (ld u0),ml 2,o1 (ia 1 u1 u0),o1 (ld u0),mt 0 2])))))
 (sq ([ml 1,ml 2,o1 (en u1 u0),mt 0 4])
 .ret))) [.val k4]
noncomputable def af159:AFunc:=.mk 2 (sq ([mc (iz 0) 7])
 (.seq (sq ([ml 0,o2 (ll u0) 3,mc (iz 0) 2])
 (.block 0 (.loop (sq ([o2 (ls k2 k3) 4])
 (.seq (.cond k4 .skip (.exit 0))
 (.seq (.block 1 (sq ([ml 2,mt 0 5])
 (sq ([ml 1,ml 0,ml 5,o1 (ia 1 u1 u0),o1 (ld u0),o2 (en u4 u0) 6])
 (.cond k6 (sq ([ml 5,mt 0 7])
 .ret) .skip))))
 (.ops [o1 (ad k2 (.c (iz 1))),mt 0 2])))))))
 (sq ([mc (.int .i64 (.negSucc 0)) 7])
 .ret))) [.val k7]
noncomputable def af160:AFunc:=.mk 2 (sq ([o2 (.box k0) 2,mc (.bool false) 7])
 (.seq (.block 0 (sq ([o1 (fa 0 k2),o1 (ld u0),o1 (en u0 (.c (iz 11))),m0,o3 (fa 0 k2) 0 false,o3 (ld u0) 1 false,o3 (en u0 (.c (iz 12))) 2 false,o1 (pk u3 (.c (.bool true)) u0),mt 0 3])
 (.cond k3 (sq ([o1 (fa 1 k2),o1 (ld u0),o1 (en u0 (.c (.str 4 1819242338))),m0,o3 (.move k1) 0 true,o3 (ia 1 u0 (.c (iz 0))) 1 true,o3 (ld u0) 2 true,o3 (.move k1) 3 true,o3 (ia 1 u0 (.c (iz 1))) 4 true,o3 (ld u0) 5 true,o3 (en u3 u0) 6 true,o1 (pk u7 u0 (.c (.bool false))),mt 0 7])
 .ret) (sq ([o1 (fa 0 k2),o1 (ld u0),o1 (ge u0 (.c (iz 13))),m0,o3 (fa 0 k2) 0 true,o3 (ld u0) 1 true,o3 (le u0 (.c (iz 16))) 2 true,o1 (pk u3 u0 (.c (.bool false))),mt 0 4])
 (.cond k4 (sq ([o1 (lN 5 k2),ml 1,o1 (.bslice [(.str 0 0),(.str 0 0)] 2 [(.mk 0 1 (.c (.str 3 7630441))),(.mk 1 1 (.c (.str 3 7630441)))]),o1 (cf 162 [u2,(.c (.str 4 1819242338)),u1,u0]),mt 0 7])
 .ret) (sq ([o1 (fa 0 k2),o1 (ld u0),o1 (en u0 (.c (iz 18))),mt 0 5])
 (.cond k5 (sq ([o1 (lN 5 k2),ml 1,o1 (.bslice [(.str 0 0)] 1 [(.mk 0 1 (.c (.str 4 1819242338)))]),o1 (cf 162 [u2,(.c (.str 4 1819242338)),u1,u0]),mt 0 7])
 .ret) (sq ([o1 (fa 0 k2),o1 (ld u0),o1 (en u0 (.c (iz 17))),mt 0 6])
 (.cond k6 (sq ([o1 (lN 5 k2),ml 1,o1 (.bslice [(.str 0 0)] 1 [(.mk 0 1 (.c (.str 3 7630441)))]),o1 (cf 162 [u2,(.c (.str 3 7630441)),u1,u0]),mt 0 7])
 .ret) .skip)))))))))
 (sq ([o1 (lN 5 k2),ml 1,o1 (.bslice [(.str 0 0),(.str 0 0)] 2 [(.mk 0 1 (.c (.str 3 7630441))),(.mk 1 1 (.c (.str 3 7630441)))]),o1 (cf 162 [u2,(.c (.str 3 7630441)),u1,u0]),mt 0 7])
 .ret))) [.val k7]
noncomputable def af161:AFunc:=.mk 3 (sq ([mc (.str 0 0) 8])
 (sq ([ml 1,o1 (cf 186 [u0]),m0,ox 0,ox 1,mt 1 3,mt 1 4])
 (sq ([ml 0,o1 (nc u0),o1 (fa 0 u0),o1 (fa 0 u0),o1 (ld u0),ml 3,o1 (cf 108 [u1,u0]),m0,ox 0,ox 1,mt 1 6,mt 1 5])
 (.seq (sq ([ml 4,o1 (.not u0),m0,o3 (.move k5) 0 false,o3 (.not u0) 1 false,o1 (pk u2 (.c (.bool true)) u0),m0,o3 (.move k2) 0 false,o3 (ls u0 (.c (iz 0))) 1 false,o1 (pk u2 (.c (.bool true)) u0),m0,o3 (.move k2) 0 false,o3 (.move k0) 1 false,o3 (nc u0) 2 false,o3 (fa 0 u0) 3 false,o3 (fa 0 u0) 4 false,o3 (ld u0) 5 false,o3 (.move k6) 6 false,o3 (ia 2 u1 u0) 7 false,o3 (fa 1 u0) 8 false,o3 (ld u0) 9 false,o3 (ll u0) 10 false,o3 (ge u10 u0) 11 false,o2 (pk u12 (.c (.bool true)) u0) 7])
 (.cond k7 (sq ([mc (.str 0 0) 8])
 .ret) .skip))
 (sq ([ml 0,o1 (nc u0),o1 (fa 0 u0),o1 (fa 0 u0),o1 (ld u0),ml 6,o1 (ia 2 u1 u0),o1 (fa 1 u0),o1 (ld u0),ml 2,o1 (ia 2 u1 u0),o1 (fa 1 u0),o1 (ld u0),mt 0 8])
 .ret))))) [.val k8]
noncomputable def af162:AFunc:=.mk 4 (sq ([o2 (.box k0) 4,mc (.bool false) 5])
 (sq ([o1 (fa 1 k4),o1 (ld u0),ml 1,o1 (en u1 u0),m0,o3 (.move k2) 0 true,o3 (.move k3) 1 true,o3 (cf 187 [u1,u0]) 2 true,o1 (pk u3 u0 (.c (.bool false))),mt 0 5])
 .ret)) [.val k5]
noncomputable def af163:AFunc:=.mk 2 (sq ([mc (.str 0 0) 3])
 (.seq (sq ([ml 1,o1 (ls u0 (.c (iz 0))),m0,o3 (.move k1) 0 false,o3 (.move k0) 1 false,o3 (ll u0) 2 false,o3 (ge u2 u0) 3 false,o2 (pk u4 (.c (.bool true)) u0) 2])
 (.cond k2 (sq ([mc (.str 0 0) 3])
 .ret) .skip))
 (sq ([ml 0,ml 1,o1 (ia 1 u1 u0),o1 (ld u0),mt 0 3])
 .ret))) [.val k3]
noncomputable def af164:AFunc:=.mk 2 (sq ([mc (.str 0 0) 3])
 (.seq (sq ([ml 1,o1 (ls u0 (.c (iz 0))),m0,o3 (.move k1) 0 false,o3 (.move k0) 1 false,o3 (nc u0) 2 false,o3 (fa 0 u0) 3 false,o3 (fa 1 u0) 4 false,o3 (ld u0) 5 false,o3 (ll u0) 6 false,o3 (ge u6 u0) 7 false,o2 (pk u8 (.c (.bool true)) u0) 2])
 (.cond k2 (sq ([mc (.str 0 0) 3])
 .ret) .skip))
 (sq ([ml 0,o1 (nc u0),o1 (fa 0 u0),o1 (fa 1 u0),o1 (ld u0),ml 1,o1 (ia 2 u1 u0),o1 (fa 1 u0),o1 (ld u0),mt 0 3])
 .ret))) [.val k3]
noncomputable def af165:AFunc:=.mk 3 (sq ([o2 (.box k1) 3,mc (.bool false) 6])
 (.seq (sq ([o1 (fa 3 k3),o1 (ld u0),o1 (ls u0 (.c (iz 0))),m0,o3 (fa 3 k3) 0 false,o3 (ld u0) 1 false,o3 (.move k0) 2 false,o3 (nc u0) 3 false,o3 (fa 0 u0) 4 false,o3 (fa 2 u0) 5 false,o3 (ld u0) 6 false,o3 (ll u0) 7 false,o3 (ge u6 u0) 8 false,o2 (pk u9 (.c (.bool true)) u0) 4])
 (.cond k4 (sq ([mc (.bool false) 6])
 .ret) .skip))
 (sq ([ml 0,o1 (nc u0),o1 (fa 0 u0),o1 (fa 2 u0),o1 (ld u0),o1 (fa 3 k3),o1 (ld u0),o1 (ia 6 u2 u0),o1 (lN 6 u0),o2 (.alloc [(.str 0 0),.nils,(.str 0 0),.nils,.nils,.nils]) 5,o1 (st 6 u0 u1)])
 (sq ([o1 (lN 5 k3),o1 (fa 2 k5),o1 (ld u0),ml 2,o1 (fa 1 k5),o1 (ld u0),o1 (cf 162 [u5,u3,u2,u0]),mt 0 6])
 .ret)))) [.val k6]
noncomputable def af166:AFunc:=.mk 2 (sq ([o2 (.box k1) 2,mc (.bool false) 11])
 (.seq (sq ([o1 (fa 0 k2),o2 (ld u0) 3])
 (.block 0 (sq ([o1 (en k3 (.c (iz 20))),mt 0 4])
 (.cond k4 (sq ([o1 (fa 1 k2),o1 (ld u0),o1 (nn u0 (.c (.str 0 0))),m0,o3 (fa 1 k2) 0 true,o3 (ld u0) 1 true,o3 (.move k0) 2 true,o3 (nc u0) 3 true,o3 (fa 3 u0) 4 true,o3 (fa 1 u0) 5 true,o3 (ld u0) 6 true,o3 (fa 3 k2) 7 true,o3 (ld u0) 8 true,.mk (cf 163 [u2,u0]) (some (u9,true)) none [.mk (ld u8) 7 (some (u9,true))],o3 (en u8 u0) 10 true,o1 (pk u11 u0 (.c (.bool false))),mt 0 11])
 .ret) (.seq (sq ([o1 (en k3 (.c (iz 21))),mt 0 5])
 (.cond k5 .skip (.ops [o1 (en k3 (.c (iz 33))),mt 0 5])))
 (.cond k5 (sq ([o1 (fa 1 k2),o1 (ld u0),o1 (en u0 (.c (.str 3 7630441))),mt 0 11])
 .ret) (sq ([o1 (en k3 (.c (iz 22))),mt 0 6])
 (.cond k6 (sq ([o1 (fa 1 k2),o1 (ld u0),o1 (en u0 (.c (.str 4 1819242338))),m0,o3 (fa 3 k2) 0 true,o3 (ld u0) 1 true,o3 (.bin .and u0 (.c (iz 1))) 2 true,o3 (fa 3 k2) 3 true,o3 (ld u0) 4 true,o3 (en u2 u0) 5 true,o1 (pk u6 u0 (.c (.bool false))),mt 0 11])
 .ret) (sq ([o1 (en k3 (.c (iz 23))),mt 0 7])
 (.cond k7 (sq ([o1 (fa 1 k2),o1 (ld u0),o1 (cf 186 [u0]),m0,ox 0,ox 1,o1 (.move u1),mt 1 8])
 (sq ([ml 8,m0,o3 (.move k0) 0 true,o3 (nc u0) 1 true,o3 (fa 0 u0) 2 true,o3 (fa 0 u0) 3 true,o3 (ld u0) 4 true,o3 (fa 1 k2) 5 true,o3 (ld u0) 6 true,o3 (cf 66 [u2,u0]) 7 true,o1 (pk u8 u0 (.c (.bool false))),mt 0 11])
 .ret)) (sq ([o1 (en k3 (.c (iz 24))),mt 0 9])
 (.cond k9 (sq ([o1 (fa 1 k2),o1 (ld u0),o1 (fa 4 k2),o1 (ld u0),.mk (cf 188 [u0]) none none [.mk (ld u3) 2 none],o1 (en u3 u0),m0,o3 (.move k0) 0 true,o3 (nc u0) 1 true,o3 (fa 0 u0) 2 true,o3 (fa 0 u0) 3 true,o3 (ld u0) 4 true,o3 (fa 1 k2) 5 true,o3 (ld u0) 6 true,o3 (cf 66 [u2,u0]) 7 true,o1 (pk u8 u0 (.c (.bool false))),m0,o3 (fa 3 k2) 0 true,o3 (ld u0) 1 true,o3 (.bin .and u0 (.c (iz 1))) 2 true,o3 (fa 3 k2) 3 true,o3 (ld u0) 4 true,o3 (en u2 u0) 5 true,o1 (pk u6 u0 (.c (.bool false))),mt 0 11])
 .ret) (sq ([o1 (en k3 (.c (iz 27))),mt 0 10])
 (.cond k10 (sq ([o1 (fa 1 k2),o1 (ld u0),o1 (nn u0 (.c (.str 0 0))),m0,o3 (fa 1 k2) 0 true,o3 (ld u0) 1 true,o3 (.move k0) 2 true,o3 (nc u0) 3 true,o3 (fa 3 u0) 4 true,o3 (fa 3 u0) 5 true,o3 (ld u0) 6 true,o3 (fa 3 k2) 7 true,o3 (ld u0) 8 true,.mk (cf 163 [u2,u0]) (some (u9,true)) none [.mk (ld u8) 7 (some (u9,true))],o3 (en u8 u0) 10 true,o1 (pk u11 u0 (.c (.bool false))),mt 0 11])
 .ret) .skip))))))))))))))
 (sq ([o1 (fa 1 k2),o1 (ld u0),o1 (nn u0 (.c (.str 0 0))),m0,o3 (fa 1 k2) 0 true,o3 (ld u0) 1 true,o3 (.move k0) 2 true,o3 (fa 3 k2) 3 true,o3 (ld u0) 4 true,.mk (cf 164 [u2,u0]) (some (u5,true)) none [.mk (ld u4) 3 (some (u5,true))],o3 (en u4 u0) 6 true,o1 (pk u7 u0 (.c (.bool false))),mt 0 11])
 .ret))) [.val k11]
noncomputable def af167:AFunc:=.mk 2 (sq ([mc (iz 0) 7])
 (.seq (sq ([ml 0,o2 (ll u0) 3,mc (iz 0) 2])
 (.block 0 (.loop (sq ([o2 (ls k2 k3) 4])
 (.seq (.cond k4 .skip (.exit 0))
 (.seq (.block 1 (sq ([ml 2,mt 0 5])
 (sq ([ml 1,ml 0,ml 5,o1 (ia 1 u1 u0),o1 (ld u0),o2 (.callV u4 [u0]) 6])
 (.cond k6 (sq ([ml 5,mt 0 7])
 .ret) .skip))))
 (.ops [o1 (ad k2 (.c (iz 1))),mt 0 2])))))))
 (sq ([mc (.int .i64 (.negSucc 0)) 7])
 .ret))) [.val k7]
noncomputable def af170:AFunc:=.mk 1 (sq ([mc (.bool false) 2])
 (sq ([ml 0,o1 (cf 186 [u0]),m0,ox 0,ox 1,o1 (.move u1),mt 1 1])
 (sq ([ml 1,mt 0 2])
 .ret))) [.val k2]
noncomputable def af173:AFunc:=.mk 4 (sq ([ml 0,o1 (nc u0),o1 (fa 0 u0),o1 (fa 2 u0),o1 (ld u0),ml 1,o1 (nc u0),o1 (fa 0 u0),o1 (ld u0),o1 (ia 6 u4 u0),o1 (lN 6 u0),o2 (.alloc [(.str 0 0),.nils,(.str 0 0),.nils,.nils,.nils]) 4,o1 (st 6 u0 u1)])
 (sq ([ml 0,o1 (nc u0),o1 (fa 3 u0),o1 (ld u0),ml 1,o1 (nc u0),o1 (fa 0 u0),o1 (ld u0),o1 (ia 1 u4 u0),o1 (ld u0),ml 2,o1 (ia 1 u1 u0),o1 (ld u0),ml 3,o1 (cf 191 [u1,u0]),mt 0 11])
 (sq ([.mk .mkMap none none [],mt 0 13])
 (.seq (sq ([o1 (fa 5 k4),o1 (ld u0),ml 2,o1 (ia 5 u1 u0),o1 (fa 0 u0),o2 (ld u0) 8,o2 (ll u0) 6,mc (iz 0) 5])
 (.block 0 (.loop (sq ([o2 (ls k5 k6) 7])
 (.seq (.cond k7 .skip (.exit 0))
 (.seq (.block 1 (sq ([o1 (ia 1 k8 k5),o1 (ld u0),mt 0 9])
 (sq ([o1 (fa 4 k4),o1 (ld u0),ml 9,o1 (ia 5 u1 u0),o1 (lN 5 u0),o2 (.alloc [(iz 0),(.str 0 0),.nils,(iz 0),(.str 0 0)]) 10,o1 (st 5 u0 u1)])
 (sq ([o1 (fa 0 k10),o1 (ld u0),o1 (en u0 (.c (iz 34))),m0,o3 (.move k11) 0 true,o3 (ge u0 (.c (iz 0))) 1 true,o2 (pk u2 u0 (.c (.bool false))) 12])
 (.cond k12 (.ops [ml 13,ml 9,ml 1,o1 (nc u0),o1 (fa 3 u0),o1 (ld u0),o1 (fa 2 k10),o1 (ld u0),ml 11,o1 (ia 1 u1 u0),o1 (ld u0),o1 (ia 1 u5 u0),o1 (ld u0),o1 (.mapUpd (.one .int) u12 u11 u0)]) .skip)))))
 (.ops [o1 (ad k5 (.c (iz 1))),mt 0 5])))))))
 (sq ([ml 13,o2 (.range u0) 14])
 (.block 2 (.loop (sq ([o1 (.next k14),o2 (xt 0 u0) 15])
 (.seq (.cond k15 .skip (.exit 2))
 (.block 3 (sq ([o1 (.entry k14),ox 0,ox 1,mt 1 16,mt 1 17])
 (.ops [ml 1,o1 (nc u0),o1 (fa 3 u0),o1 (ld u0),ml 16,ml 1,o1 (nc u0),o1 (fa 4 u0),o1 (ld u0),ml 16,ml 17,o1 (ia 1 u7 u6),o1 (st 1 u0 u1),o1 (ia 1 u4 u3),o1 (st 1 u0 (.c (.bool true)))])))))))))))) []
noncomputable def af174:AFunc:=.mk 1 (.seq (sq ([ml 0,o1 (nc u0),o1 (fa 7 u0),o1 (ld u0),o2 (en u0 (.c (iz 0))) 1])
 (.cond k1 (.ops [o1 (.build [(iz 0),(iz 0)] [(.mk 0 1 (.c (iz 3))),(.mk 1 1 (.c (iz 0)))]),o1 (.mkIfc 146 u0),o1 (.panic u0)]) .skip))
 (sq ([ml 0,o1 (nc u0),o1 (fa 7 u0),o1 (ld u0),o1 (sb u0 (.c (iz 1))),o1 (nc u4),o1 (fa 7 u0),o1 (st 1 u0 u2)])
 (.ops [ml 0,o1 (nc u0),o1 (fa 8 u0),o1 (fa 3 u0),o1 (ld u0),o1 (ad u0 (.c (iz 1))),o1 (nc u5),o1 (fa 8 u0),o1 (fa 3 u0),o1 (st 1 u0 u3)]))) []
noncomputable def af175:AFunc:=.mk 3 (sq ([mc (iz 0) 12])
 (sq ([ml 0,o1 (nc u0),o1 (fa 0 u0),o1 (fa 2 u0),o1 (ld u0),ml 1,o1 (nc u0),o1 (fa 0 u0),o1 (ld u0),o1 (ia 6 u4 u0),o1 (fa 4 u0),o1 (ld u0),ml 2,o1 (ia 5 u1 u0),o1 (lN 5 u0),o2 (.alloc [(iz 0),(.str 0 0),.nils,(iz 0),(.str 0 0)]) 3,o1 (st 5 u0 u1)])
 (sq ([ml 1,o1 (lN 5 k3),o1 (cf 192 [u1,u0]),mt 0 5])
 (.seq (.block 0 (sq ([o1 (fa 0 k3),o1 (ld u0),o1 (le u0 (.c (iz 18))),mt 0 4])
 (.cond k4 (sq ([o1 (fa 0 k3),o1 (ld u0),ml 5,o1 (cf 193 [u1,u0]),mt 0 12])
 .ret) (sq ([o1 (fa 0 k3),o1 (ld u0),o1 (en u0 (.c (iz 31))),mt 0 6])
 (.cond k6 (sq ([ml 0,ml 1,o1 (lN 5 k3),ml 5,o1 (cf 194 [u3,u2,u1,u0]),mt 0 12])
 .ret) (sq ([o1 (fa 0 k3),o1 (ld u0),o1 (en u0 (.c (iz 32))),mt 0 7])
 (.cond k7 (sq ([ml 0,ml 0,o1 (nc u0),o1 (fa 8 u0),o1 (fa 0 u0),o1 (ld u0),ml 5,o1 (ia 1 u0 (.c (iz 0))),o1 (ld u0),o1 (.bslice [(iz 0)] 1 [(.mk 0 1 u0)]),o1 (ap 1 8 u4 u0),o1 (nc u10),o1 (fa 8 u0),o1 (fa 0 u0),o1 (st 1 u0 u3)])
 (sq ([mc (iz 0) 12])
 .ret)) (sq ([o1 (fa 0 k3),o1 (ld u0),o1 (en u0 (.c (iz 25))),mt 0 8])
 (.cond k8 (sq ([ml 0,o1 (nc u0),o1 (fa 5 u0),o1 (ld u0),ml 5,o1 (ia 1 u0 (.c (iz 0))),o1 (ld u0),o1 (fa 3 k3),o1 (ld u0),o1 (cf 195 [u5,u2,u0]),m0,ox 0,ox 1,mt 1 10,mt 1 9])
 (sq ([ml 9,o1 (cf 196 [u0])])
 (sq ([ml 10,mt 0 12])
 .ret))) (sq ([ml 5,o1 (ll u0),o1 (gt u0 (.c (iz 0))),mt 0 11])
 (.cond k11 (sq ([ml 0,ml 1,o1 (lN 5 k3),ml 5,o1 (cf 197 [u3,u2,u1,u0])])
 (sq ([mc (iz 0) 12])
 .ret)) .skip)))))))))))
 (sq ([ml 0,ml 1,ml 2,o1 (cf 198 [u2,u1,u0]),mt 0 12])
 .ret))))) [.val k12]
noncomputable def af176:AFunc:=.mk 2 (sq ([mc (.str 0 0) 2])
 (sq ([o1 (fa 1 k1),o1 (ld u0),ml 0,o1 (ia 1 u1 u0),o1 (ld u0),mt 0 2])
 .ret)) [.val k2]
noncomputable def af177:AFunc:=.mk 2 (sq ([mc (iz 0) 3])
 (.seq (sq ([ml 0,ml 1,o1 (cf 199 [u1,u0]),o2 (.not u0) 2])
 (.cond k2 (sq ([mc (iz 13) 3])
 .ret) .skip))
 (sq ([ml 0,o1 (nc u0),o1 (fa 2 u0),o1 (ld u0),ml 1,o1 (sb u0 (.c (iz 1))),o1 (ia 1 u2 u0),o1 (st 1 u0 (.c (.bool false)))])
 (sq ([mc (iz 0) 3])
 .ret)))) [.val k3]
noncomputable def af178:AFunc:=.mk 2 (sq ([mc (.bool false) 2])
 (sq ([ml 0,ml 1,o1 (cf 200 [u1,u0]),o1 (ge u0 (.c (iz 0))),mt 0 2])
 .ret)) [.val k2]
noncomputable def af179:AFunc:=.mk 2 (sq ([o2 (.box k0) 2,mc (.bool false) 3])
 (sq ([o1 (fa 0 k2),o1 (ld u0),o1 (fa 0 k1),o1 (ld u0),o1 (en u2 u0),mt 0 3])
 .ret)) [.val k3]
noncomputable def af180:AFunc:=.mk 2 (sq ([mc (.bool false) 2])
 (sq ([ml 0,o1 (lt u0),ml 1,o1 (lt u0),o1 (ge u2 u0),m0,o3 (.move k0) 0 true,o3 (.move k1) 1 true,o3 (lt u0) 2 true,o3 (.sliceS u2 none (some u0)) 3 true,o3 (.move k1) 4 true,o3 (en u1 u0) 5 true,o1 (pk u6 u0 (.c (.bool false))),mt 0 2])
 .ret)) [.val k2]
noncomputable def af182:AFunc:=.mk 2 (sq ([mc (.int .u64 (.ofNat 0)) 10,mc (.int .u64 (.ofNat 0)) 11])
 (sq ([ml 0,o1 (.bin .and u0 (.c (.int .u64 (.ofNat 4294967295)))),mt 0 2])
 (sq ([ml 0,o1 (.bin .shr u0 (.c (.int .u64 (.ofNat 32)))),mt 0 4])
 (sq ([ml 1,o1 (.bin .and u0 (.c (.int .u64 (.ofNat 4294967295)))),mt 0 3])
 (sq ([ml 1,o1 (.bin .shr u0 (.c (.int .u64 (.ofNat 32)))),mt 0 8])
 (sq ([ml 2,ml 3,o1 (.bin .mul u1 u0),mt 0 5])
 (sq ([ml 4,ml 3,o1 (.bin .mul u1 u0),ml 5,o1 (.bin .shr u0 (.c (.int .u64 (.ofNat 32)))),o1 (ad u2 u0),mt 0 6])
 (sq ([ml 6,o1 (.bin .and u0 (.c (.int .u64 (.ofNat 4294967295)))),mt 0 7])
 (sq ([ml 6,o1 (.bin .shr u0 (.c (.int .u64 (.ofNat 32)))),mt 0 9])
 (sq ([ml 7,ml 2,ml 8,o1 (.bin .mul u1 u0),o1 (ad u3 u0),mt 0 7])
 (sq ([ml 4,ml 8,o1 (.bin .mul u1 u0),ml 9,o1 (ad u1 u0),ml 7,o1 (.bin .shr u0 (.c (.int .u64 (.ofNat 32)))),o1 (ad u2 u0),mt 0 10])
 (sq ([ml 0,ml 1,o1 (.bin .mul u1 u0),mt 0 11])
 .ret)))))))))))) [.val k10,.val k11]
noncomputable def af183:AFunc:=.mk 2 (sq ([ml 0,o1 (nc u0),o1 (fa 6 u0),o1 (ld u0),ml 1,o1 (ia 1 u1 u0),o1 (st 1 u0 (.c (.bool true)))])
 (.seq (sq ([ml 0,o1 (nc u0),o1 (fa 0 u0),o1 (lN 6 u0),ml 1,o2 (cf 76 [u1,u0]) 5,o2 (ll u0) 3,mc (iz 0) 2])
 (.block 0 (.loop (sq ([o2 (ls k2 k3) 4])
 (.seq (.cond k4 .skip (.exit 0))
 (.seq (.block 1 (sq ([o1 (ia 1 k5 k2),o1 (ld u0),mt 0 6])
 (sq ([ml 0,o1 (nc u0),o1 (fa 6 u0),o1 (ld u0),ml 6,o1 (ia 1 u1 u0),o1 (ld u0),o2 (.not u0) 7])
 (.cond k7 (.ops [ml 0,ml 6,o1 (cf 183 [u1,u0])]) .skip))))
 (.ops [o1 (ad k2 (.c (iz 1))),mt 0 2])))))))
 (.ops [ml 0,ml 0,o1 (nc u0),o1 (fa 7 u0),o1 (ld u0),ml 1,o1 (.bslice [(iz 0)] 1 [(.mk 0 1 u0)]),o1 (ap 1 8 u2 u0),o1 (nc u7),o1 (fa 7 u0),o1 (st 1 u0 u2)]))) []
noncomputable def af184:AFunc:=.mk 1 (sq ([ml 0,o1 (ll u0),o1 (sb u0 (.c (iz 1))),mc (iz 0) 1,mt 1 2])
 (.block 0 (.loop (.seq (sq ([ml 1,ml 2,o2 (ls u1 u0) 3])
 (.cond k3 .skip (.exit 0)))
 (.seq (.block 1 (.ops [ml 0,ml 1,ml 0,ml 2,ml 0,ml 2,o1 (ia 1 u1 u0),o1 (ld u0),ml 0,ml 1,o1 (ia 1 u1 u0),o1 (ld u0),o1 (ia 1 u11 u10),o1 (st 1 u0 u5),o1 (ia 1 u11 u10),o1 (st 1 u0 u3)]))
 (.ops [ml 1,o1 (ad u0 (.c (iz 1))),ml 2,o1 (sb u0 (.c (iz 1))),mt 2 1,mt 1 2])))))) []
noncomputable def af185:AFunc:=.mk 3 (sq ([mc (iz 0) 6])
 (.seq (.block 0 (.loop (.seq (sq ([ml 1,ml 2,o2 (nn u1 u0) 3])
 (.cond k3 .skip (.exit 0)))
 (.block 1 (.seq (.block 2 (.loop (.seq (sq ([ml 0,o1 (nc u0),o1 (fa 1 u0),o1 (ld u0),ml 1,o1 (ia 1 u1 u0),o1 (ld u0),ml 0,o1 (nc u0),o1 (fa 1 u0),o1 (ld u0),ml 2,o1 (ia 1 u1 u0),o1 (ld u0),o2 (gt u7 u0) 4])
 (.cond k4 .skip (.exit 2)))
 (.block 3 (.ops [ml 0,o1 (nc u0),o1 (fa 3 u0),o1 (ld u0),ml 1,o1 (ia 1 u1 u0),o1 (ld u0),mt 0 1])))))
 (.block 4 (.loop (.seq (sq ([ml 0,o1 (nc u0),o1 (fa 1 u0),o1 (ld u0),ml 2,o1 (ia 1 u1 u0),o1 (ld u0),ml 0,o1 (nc u0),o1 (fa 1 u0),o1 (ld u0),ml 1,o1 (ia 1 u1 u0),o1 (ld u0),o2 (gt u7 u0) 5])
 (.cond k5 .skip (.exit 4)))
 (.block 5 (.ops [ml 0,o1 (nc u0),o1 (fa 3 u0),o1 (ld u0),ml 2,o1 (ia 1 u1 u0),o1 (ld u0),mt 0 2]))))))))))
 (sq ([ml 1,mt 0 6])
 .ret))) [.val k6]
noncomputable def af186:AFunc:=.mk 1 (sq ([mc (.str 0 0) 4,mc (.bool false) 5])
 (sq ([ml 0,o1 (cf 107 [u0,(.c (.str 1 42))]),m0,ox 0,ox 1,mt 1 2,mt 1 1])
 (.seq (sq ([ml 1,o1 (.not u0),m0,o3 (.move k2) 0 false,o3 (cf 65 [u0]) 1 false,o3 (.not u0) 2 false,o2 (pk u3 (.c (.bool true)) u0) 3])
 (.cond k3 (sq ([mc (.str 0 0) 4,mc (.bool false) 5])
 .ret) .skip))
 (sq ([ml 2,mt 0 4,mc (.bool true) 5])
 .ret)))) [.val k4,.val k5]
noncomputable def af187:AFunc:=.mk 2 (sq ([mc (.bool false) 8])
 (.seq (sq ([ml 0,o1 (ll u0),ml 1,o1 (ll u0),o2 (nn u2 u0) 2])
 (.cond k2 (sq ([mc (.bool false) 8])
 .ret) .skip))
 (.seq (sq ([ml 0,o2 (ll u0) 4,mc (iz 0) 3])
 (.block 0 (.loop (sq ([o2 (ls k3 k4) 5])
 (.seq (.cond k5 .skip (.exit 0))
 (.seq (.block 1 (sq ([ml 3,mt 0 6])
 (sq ([ml 0,ml 6,o1 (ia 1 u1 u0),o1 (ld u0),ml 1,ml 6,o1 (ia 1 u1 u0),o1 (ld u0),o2 (nn u4 u0) 7])
 (.cond k7 (sq ([mc (.bool false) 8])
 .ret) .skip))))
 (.ops [o1 (ad k3 (.c (iz 1))),mt 0 3])))))))
 (sq ([mc (.bool true) 8])
 .ret)))) [.val k8]
noncomputable def af188:AFunc:=.mk 1 (sq ([mc (.str 0 0) 1])
 (sq ([ml 0,o1 (ad (.c (.str 1 42)) u0),mt 0 1])
 .ret)) [.val k1]
noncomputable def af191:AFunc:=.mk 2 (sq ([mc (iz 0) 7])
 (.seq (sq ([ml 0,o2 (ll u0) 3,mc (iz 0) 2])
 (.block 0 (.loop (sq ([o2 (ls k2 k3) 4])
 (.seq (.cond k4 .skip (.exit 0))
 (.seq (.block 1 (sq ([ml 2,mt 0 5])
 (sq ([ml 1,ml 0,ml 5,o1 (ia 1 u1 u0),o1 (ld u0),o2 (en u4 u0) 6])
 (.cond k6 (sq ([ml 5,mt 0 7])
 .ret) .skip))))
 (.ops [o1 (ad k2 (.c (iz 1))),mt 0 2])))))))
 (sq ([mc (.int .i64 (.negSucc 0)) 7])
 .ret))) [.val k7]
noncomputable def af192:AFunc:=.mk 2 (sq ([o2 (.box k1) 2,mc .nils 9])
 (sq ([mc .nils 7])
 (.seq (sq ([o1 (fa 2 k2),o2 (ld u0) 6,o2 (ll u0) 4,mc (iz 0) 3])
 (.block 0 (.loop (sq ([o2 (ls k3 k4) 5])
 (.seq (.cond k5 .skip (.exit 0))
 (.seq (.block 1 (sq ([o1 (ia 1 k6 k3),o1 (ld u0),mt 0 8])
 (.ops [ml 7,ml 0,o1 (nc u0),o1 (fa 3 u0),o1 (ld u0),ml 8,o1 (ia 1 u1 u0),o1 (ld u0),o1 (.bslice [(iz 0)] 1 [(.mk 0 1 u0)]),o1 (ap 1 8 u8 u0),mt 0 7])))
 (.ops [o1 (ad k3 (.c (iz 1))),mt 0 3])))))))
 (sq ([ml 7,mt 0 9])
 .ret)))) [.val k9]
noncomputable def af193:AFunc:=.mk 2 (sq ([mc (iz 0) 4])
 (sq ([ml 0,ml 1,o1 (ia 1 u0 (.c (iz 0))),o1 (ld u0),ml 1,ml 1,o1 (ll u0),o1 (sb u0 (.c (iz 1))),o1 (ia 1 u3 u0),o1 (ld u0),o1 (cf 212 [u9,u6,u0]),m0,ox 0,ox 1,mt 1 3,mt 1 2])
 (sq ([ml 2,o1 (cf 196 [u0])])
 (sq ([ml 3,mt 0 4])
 .ret)))) [.val k4]
noncomputable def af194:AFunc:=.mk 4 (sq ([o2 (.box k0) 4,o2 (.box k2) 5,mc (iz 0) 7])
 (sq ([ml 3,o1 (.mkFn 213 [] [k4,k5]),o1 (cf 132 [u1,u0]),mt 0 6])
 (sq ([o1 (ld k4),ml 1,o1 (nc u0),o1 (fa 0 u0),o1 (ld u0),ml 1,o1 (nc u0),o1 (fa 1 u0),o1 (ld u0),ml 6,o1 (ld k4),o1 (nc u0),o1 (fa 13 u0),o1 (ld u0),o1 (cf 78 [u13,(.c (iz 1)),u9,u5,u4,u0])])
 (sq ([o1 (ld k4),o1 (fa 3 k5),o1 (ld u0),ml 3,o1 (cf 79 [u3,u1,u0]),mt 0 7])
 .ret)))) [.val k7]
noncomputable def af195:AFunc:=.mk 3 (sq ([mc (iz 0) 5,mc (iz 0) 6])
 (.seq (sq ([ml 0,ml 1,ml 2,o1 (cf 214 [u2,u1,u0]),mt 0 3])
 (sq ([ml 3,o2 (nn u0 (.c (iz 0))) 4])
 (.cond k4 (sq ([ml 3,mc (iz 0) 5,mt 1 6])
 .ret) .skip)))
 (sq ([ml 0,o1 (nc u0),o1 (fa 1 u0),o1 (ld u0),ml 1,o1 (sb u0 (.c (iz 1))),o1 (ia 3 u2 u0),o1 (fa 2 u0),o1 (ld u0),ml 2,o1 (ia 1 u1 u0),o1 (ld u0),mt 0 5,mc (iz 0) 6])
 .ret))) [.val k5,.val k6]
noncomputable def af196:AFunc:=.mk 1 (sq ([o2 (.move k0) 1])
 (.block 0 (sq ([o1 (en k1 (.c (iz 0))),mt 0 2])
 (.cond k2 .skip (sq ([o1 (en k1 (.c (iz 14))),mt 0 3])
 (.cond k3 (.ops [ml 0,o1 (.build [(iz 0),(iz 0)] [(.mk 0 1 (.c (iz 4))),(.mk 1 1 u0)]),o1 (.mkIfc 146 u0),o1 (.panic u0)]) (.ops [ml 0,o1 (.build [(iz 0),(iz 0)] [(.mk 0 1 (.c (iz 2))),(.mk 1 1 u0)]),o1 (.mkIfc 146 u0),o1 (.panic u0)]))))))) []
noncomputable def af197:AFunc:=.mk 4 (sq ([o2 (.box k2) 4])
 (sq ([ml 3,ml 3,o1 (ll u0),o1 (sb u0 (.c (iz 1))),o1 (ia 1 u3 u0),o1 (ld u0),mt 0 7])
 (.seq (sq ([o1 (fa 0 k4),o2 (ld u0) 5])
 (.block 0 (sq ([o1 (en k5 (.c (iz 28))),mt 0 6])
 (.cond k6 (sq ([ml 1,o1 (nc u0),o1 (fa 5 u0),o1 (ld u0),o1 (fa 3 k4),o1 (ld u0),ml 7,o1 (ia 1 u3 u1),o1 (st 1 u0 u1)])
 .ret) (sq ([o1 (en k5 (.c (iz 26))),mt 0 8])
 (.cond k8 (.ops [ml 0,o1 (nc u0),o1 (fa 5 u0),o1 (ld u0),ml 3,o1 (ia 1 u0 (.c (iz 0))),o1 (ld u0),o1 (fa 3 k4),o1 (ld u0),ml 7,o1 (cf 215 [u6,u3,u1,u0]),o1 (cf 196 [u0])]) (sq ([o1 (en k5 (.c (iz 30))),mt 0 9])
 (.cond k9 (.ops [ml 0,o1 (nc u0),o1 (fa 4 u0),o1 (ld u0),o1 (fa 3 k4),o1 (ld u0),ml 7,o1 (ia 1 u3 u1),o1 (st 1 u0 u1)]) .skip))))))))
 (sq ([ml 0,o1 (nc u0),o1 (fa 0 u0),o1 (fa 2 u0),o1 (ld u0),ml 1,o1 (nc u0),o1 (fa 0 u0),o1 (ld u0),o1 (ia 6 u4 u0),o1 (fa 4 u0),o1 (ld u0),o1 (fa 2 k4),o1 (ld u0),ml 3,o1 (ll u0),o1 (sb u0 (.c (iz 1))),o1 (ia 1 u3 u0),o1 (ld u0),o1 (ia 5 u7 u0),o1 (fa 1 u0),o1 (ld u0),o2 (cf 170 [u0]) 10])
 (.cond k10 (.ops [ml 0,ml 1,o1 (nc u0),o1 (fa 0 u0),o1 (ld u0),ml 1,o1 (nc u0),o1 (fa 1 u0),o1 (ld u0),ml 0,o1 (nc u0),o1 (fa 13 u0),o1 (ld u0),o1 (cf 78 [u12,(.c (iz 3)),u8,u4,(.c .nils),u0])]) .skip))))) []
noncomputable def af198:AFunc:=.mk 3 (sq ([mc (iz 0) 11])
 (sq ([ml 0,o1 (nc u0),o1 (fa 0 u0),o1 (fa 2 u0),o1 (ld u0),ml 1,o1 (nc u0),o1 (fa 0 u0),o1 (ld u0),o1 (ia 6 u4 u0),o1 (fa 4 u0),o1 (ld u0),ml 2,o1 (ia 5 u1 u0),o1 (lN 5 u0),o2 (.alloc [(iz 0),(.str 0 0),.nils,(iz 0),(.str 0 0)]) 3,o1 (st 5 u0 u1)])
 (.seq (sq ([o1 (fa 0 k3),o2 (ld u0) 4])
 (.block 0 (sq ([o1 (en k4 (.c (iz 20))),mt 0 5])
 (.cond k5 (sq ([ml 1,o1 (nc u0),o1 (fa 2 u0),o1 (ld u0),o1 (fa 3 k3),o1 (ld u0),o1 (ia 1 u2 u0),o1 (ld u0),mt 0 11])
 .ret) (.seq (sq ([o1 (en k4 (.c (iz 21))),mt 0 6])
 (.cond k6 .skip (.ops [o1 (en k4 (.c (iz 22))),mt 0 6])))
 (.cond k6 (sq ([o1 (fa 3 k3),o1 (ld u0),mt 0 11])
 .ret) (sq ([o1 (en k4 (.c (iz 24))),mt 0 7])
 (.cond k7 (sq ([ml 0,ml 1,ml 2,o1 (cf 216 [u2,u1,u0]),mt 0 11])
 .ret) (sq ([o1 (en k4 (.c (iz 27))),mt 0 8])
 (.cond k8 (sq ([ml 1,o1 (nc u0),o1 (fa 5 u0),o1 (ld u0),o1 (fa 3 k3),o1 (ld u0),o1 (ia 1 u2 u0),o1 (ld u0),mt 0 11])
 .ret) (sq ([o1 (en k4 (.c (iz 29))),mt 0 9])
 (.cond k9 (sq ([ml 0,o1 (nc u0),o1 (fa 4 u0),o1 (ld u0),o1 (fa 3 k3),o1 (ld u0),o1 (ia 1 u2 u0),o1 (ld u0),mt 0 11])
 .ret) (sq ([o1 (en k4 (.c (iz 33))),mt 0 10])
 (.cond k10 (sq ([ml 0,o1 (cf 217 [u0]),mt 0 11])
 .ret) .skip))))))))))))))
 (sq ([mc (iz 0) 11])
 .ret)))) [.val k11]
noncomputable def af199:AFunc:=.mk 2 (sq ([mc (.bool false) 2])
 (sq ([ml 0,o1 (.eq true .ptr u0 (.c .nilp)),m0,o3 (.move k1) 0 true,o3 (ge u0 (.c (iz 1))) 1 true,o1 (pk u2 u0 (.c (.bool false))),m0,o3 (.move k1) 0 true,o3 (.move k0) 1 true,o3 (nc u0) 2 true,o3 (fa 2 u0) 3 true,o3 (ld u0) 4 true,o3 (ll u0) 5 true,o3 (le u5 u0) 6 true,o1 (pk u7 u0 (.c (.bool false))),m0,o3 (.move k0) 0 true,o3 (nc u0) 1 true,o3 (fa 2 u0) 2 true,o3 (ld u0) 3 true,o3 (.move k1) 4 true,o3 (sb u0 (.c (iz 1))) 5 true,o3 (ia 1 u2 u0) 6 true,o3 (ld u0) 7 true,o1 (pk u8 u0 (.c (.bool false))),mt 0 2])
 .ret)) [.val k2]
noncomputable def af200:AFunc:=.mk 2 (sq ([mc (iz 0) 7])
 (.seq (sq ([ml 0,o2 (ll u0) 3,mc (iz 0) 2])
 (.block 0 (.loop (sq ([o2 (ls k2 k3) 4])
 (.seq (.cond k4 .skip (.exit 0))
 (.seq (.block 1 (sq ([ml 2,mt 0 5])
 (sq ([ml 1,ml 0,ml 5,o1 (ia 2 u1 u0),o1 (lN 2 u0),o2 (.callV u4 [u0]) 6])
 (.cond k6 (sq ([ml 5,mt 0 7])
 .ret) .skip))))
 (.ops [o1 (ad k2 (.c (iz 1))),mt 0 2])))))))
 (sq ([mc (.int .i64 (.negSucc 0)) 7])
 .ret))) [.val k7]
noncomputable def af212:AFunc:=.mk 3 (sq ([mc (iz 0) 6,mc (iz 0) 7])
 (.seq (.block 0 (sq ([ml 0,o1 (cf 224 [u0]),o1 (.not u0),m0,o3 (.move k0) 0 true,o3 (cf 225 [u0]) 1 true,o3 (.not u0) 2 true,o1 (pk u3 u0 (.c (.bool false))),mt 0 3])
 (.cond k3 (sq ([mc (iz 0) 6,mc (iz 9) 7])
 .ret) (sq ([ml 0,o1 (en u0 (.c (iz 9))),m0,o3 (.move k0) 0 false,o3 (en u0 (.c (iz 10))) 1 false,o1 (pk u2 (.c (.bool true)) u0),mt 0 4])
 (.cond k4 (sq ([ml 0,ml 1,ml 2,o1 (cf 226 [u2,u1,u0]),ox 0,ox 1,mt 1 6,mt 1 7])
 .ret) (sq ([ml 0,o1 (en u0 (.c (iz 4))),m0,o3 (.move k0) 0 false,o3 (en u0 (.c (iz 5))) 1 false,o1 (pk u2 (.c (.bool true)) u0),mt 0 5])
 (.cond k5 (sq ([ml 0,ml 1,ml 2,o1 (cf 227 [u2,u1,u0]),ox 0,ox 1,mt 1 6,mt 1 7])
 .ret) .skip)))))))
 (sq ([ml 0,ml 1,ml 2,o1 (cf 228 [u2,u1,u0]),mt 0 6,mc (iz 0) 7])
 .ret))) [.val k6,.val k7]
noncomputable def af213:AFunc:=.mk 3 (sq ([mc (.str 0 0) 3])
 (sq ([o1 (ld k1),o1 (nc u0),o1 (fa 0 u0),o1 (fa 2 u0),o1 (ld u0),o1 (fa 3 k2),o1 (ld u0),o1 (ia 6 u2 u0),o1 (fa 1 u0),o1 (ld u0),ml 0,o1 (ia 1 u1 u0),o1 (ld u0),mt 0 3])
 .ret)) [.val k3]
noncomputable def af214:AFunc:=.mk 3 (sq ([mc (iz 0) 8])
 (.seq (.block 0 (sq ([ml 0,o1 (.eq false .ptr u0 (.c .nilp)),mt 0 3])
 (.cond k3 (sq ([mc (iz 13) 8])
 .ret) (sq ([ml 1,o1 (en u0 (.c (iz 0))),mt 0 4])
 (.cond k4 (sq ([mc (iz 10) 8])
 .ret) (sq ([ml 0,ml 1,o1 (cf 229 [u1,u0]),o1 (.not u0),mt 0 5])
 (.cond k5 (sq ([mc (iz 13) 8])
 .ret) (sq ([ml 0,ml 1,o1 (cf 230 [u1,u0]),mt 0 6])
 (.cond k6 (sq ([mc (iz 14) 8])
 .ret) (sq ([ml 2,o1 (ls u0 (.c (iz 0))),m0,o3 (.move k2) 0 false,o3 (.move k0) 1 false,o3 (nc u0) 2 false,o3 (fa 1 u0) 3 false,o3 (ld u0) 4 false,o3 (.move k1) 5 false,o3 (sb u0 (.c (iz 1))) 6 false,o3 (ia 3 u2 u0) 7 false,o3 (fa 2 u0) 8 false,o3 (ld u0) 9 false,o3 (ll u0) 10 false,o3 (ge u10 u0) 11 false,o1 (pk u12 (.c (.bool true)) u0),mt 0 7])
 (.cond k7 (sq ([mc (iz 2) 8])
 .ret) .skip)))))))))))
 (sq ([mc (iz 0) 8])
 .ret))) [.val k8]
noncomputable def af215:AFunc:=.mk 4 (sq ([mc (iz 0) 6])
 (.seq (sq ([ml 0,ml 1,ml 2,o1 (cf 214 [u2,u1,u0]),mt 0 4])
 (sq ([ml 4,o2 (nn u0 (.c (iz 0))) 5])
 (.cond k5 (sq ([ml 4,mt 0 6])
 .ret) .skip)))
 (sq ([ml 0,o1 (nc u0),o1 (fa 1 u0),o1 (ld u0),ml 1,o1 (sb u0 (.c (iz 1))),o1 (ia 3 u2 u0),o1 (fa 2 u0),o1 (ld u0),ml 2,ml 3,o1 (ia 1 u2 u1),o1 (st 1 u0 u1)])
 (sq ([mc (iz 0) 6])
 .ret)))) [.val k6]
noncomputable def af216:AFunc:=.mk 3 (sq ([mc (iz 0) 6])
 (sq ([ml 0,o1 (nc u0),o1 (fa 0 u0),o1 (fa 2 u0),o1 (ld u0),ml 1,o1 (nc u0),o1 (fa 0 u0),o1 (ld u0),o1 (ia 6 u4 u0),o1 (fa 4 u0),o1 (ld u0),ml 2,o1 (ia 5 u1 u0),o1 (lN 5 u0),o2 (.alloc [(iz 0),(.str 0 0),.nils,(iz 0),(.str 0 0)]) 3,o1 (st 5 u0 u1)])
 (sq ([ml 0,o1 (nc u0),o1 (fa 5 u0),o1 (ld u0),o1 (fa 4 k3),o1 (ld u0),ml 1,o1 (nc u0),o1 (fa 1 u0),o1 (ld u0),o1 (fa 3 k3),o1 (ld u0),o1 (.bin .mul u2 u0),o1 (cf 231 [u9,u7,u0]),m0,ox 0,ox 1,mt 1 5,mt 1 4])
 (sq ([ml 4,o1 (cf 196 [u0])])
 (sq ([ml 0,ml 0,o1 (nc u0),o1 (fa 14 u0),o1 (ld u0),ml 1,o1 (nc u0),o1 (fa 0 u0),o1 (ld u0),ml 2,o1 (.build [(iz 0),(iz 0)] [(.mk 0 1 u1),(.mk 1 1 u0)]),o1 (.bslice [(iz 0),(iz 0)] 1 [(.mk 0 2 u0)]),o1 (ap 2 16 u7 u0),o1 (nc u12),o1 (fa 14 u0),o1 (st 1 u0 u2)])
 (sq ([ml 5,mt 0 6])
 .ret)))))) [.val k6]
noncomputable def af217:AFunc:=.mk 1 (sq ([mc (iz 0) 3])
 (.seq (sq ([ml 0,o1 (nc u0),o1 (fa 6 u0),o1 (ld u0),o1 (ll u0),o2 (en u0 (.c (iz 0))) 1])
 (.cond k1 (sq ([mc (iz 0) 3])
 .ret) .skip))
 (sq ([ml 0,o1 (nc u0),o1 (fa 6 u0),o1 (ld u0),o1 (ia 1 u0 (.c (iz 0))),o1 (ld u0),mt 0 2])
 (sq ([ml 0,ml 0,o1 (nc u0),o1 (fa 6 u0),o1 (ld u0),o1 (.sliceV true 1 u0 (some (.c (iz 1))) none none),o1 (nc u5),o1 (fa 6 u0),o1 (st 1 u0 u2)])
 (sq ([ml 2,mt 0 3])
 .ret))))) [.val k3]
noncomputable def af224:AFunc:=.mk 1 (sq ([mc (.bool false) 1])
 (sq ([ml 0,o1 (ge u0 (.c (iz 1))),m0,o3 (.move k0) 0 true,o3 (le u0 (.c (iz 16))) 1 true,o1 (pk u2 u0 (.c (.bool false))),mt 0 1])
 .ret)) [.val k1]
noncomputable def af225:AFunc:=.mk 1 (sq ([mc (.bool false) 1])
 (sq ([ml 0,o1 (en u0 (.c (iz 17))),m0,o3 (.move k0) 0 false,o3 (en u0 (.c (iz 18))) 1 false,o1 (pk u2 (.c (.bool true)) u0),mt 0 1])
 .ret)) [.val k1]
noncomputable def af226:AFunc:=.mk 3 (sq ([mc (iz 0) 6,mc (iz 0) 7])
 (.seq (.block 0 (sq ([ml 2,o1 (ls u0 (.c (iz 0))),mt 0 3])
 (.cond k3 (sq ([mc (iz 0) 6,mc (iz 12) 7])
 .ret) (sq ([ml 0,o1 (en u0 (.c (iz 10))),mt 0 4])
 (.cond k4 (sq ([ml 1,ml 2,o1 (.min u0 (.c (iz 63))),o1 (.convI .u64 u0),o1 (.bin .shr u3 u0),mt 0 6,mc (iz 0) 7])
 .ret) (sq ([ml 2,o1 (ge u0 (.c (iz 64))),mt 0 5])
 (.cond k5 (sq ([mc (iz 0) 6,mc (iz 0) 7])
 .ret) .skip)))))))
 (sq ([ml 1,ml 2,o1 (.convI .u64 u0),o1 (.bin .shl u2 u0),mt 0 6,mc (iz 0) 7])
 .ret))) [.val k6,.val k7]
noncomputable def af227:AFunc:=.mk 3 (sq ([mc (iz 0) 5,mc (iz 0) 6])
 (.seq (.block 0 (sq ([ml 2,o1 (en u0 (.c (iz 0))),mt 0 3])
 (.cond k3 (sq ([mc (iz 0) 5,mc (iz 11) 6])
 .ret) (sq ([ml 0,o1 (en u0 (.c (iz 4))),mt 0 4])
 (.cond k4 (sq ([ml 1,ml 2,o1 (.bin .quo u1 u0),mt 0 5,mc (iz 0) 6])
 .ret) .skip)))))
 (sq ([ml 1,ml 2,o1 (.bin .rem u1 u0),mt 0 5,mc (iz 0) 6])
 .ret))) [.val k5,.val k6]
noncomputable def af228:AFunc:=.mk 3 (sq ([mc (iz 0) 12])
 (.seq (sq ([o2 (.move k0) 3])
 (.block 0 (sq ([o1 (en k3 (.c (iz 1))),mt 0 4])
 (.cond k4 (sq ([ml 1,ml 2,o1 (ad u1 u0),mt 0 12])
 .ret) (sq ([o1 (en k3 (.c (iz 2))),mt 0 5])
 (.cond k5 (sq ([ml 1,ml 2,o1 (sb u1 u0),mt 0 12])
 .ret) (sq ([o1 (en k3 (.c (iz 3))),mt 0 6])
 (.cond k6 (sq ([ml 1,ml 2,o1 (.bin .mul u1 u0),mt 0 12])
 .ret) (sq ([o1 (en k3 (.c (iz 6))),mt 0 7])
 (.cond k7 (sq ([ml 1,ml 2,o1 (.bin .and u1 u0),mt 0 12])
 .ret) (sq ([o1 (en k3 (.c (iz 7))),mt 0 8])
 (.cond k8 (sq ([ml 1,ml 2,o1 (.bin .or u1 u0),mt 0 12])
 .ret) (sq ([o1 (en k3 (.c (iz 8))),mt 0 9])
 (.cond k9 (sq ([ml 1,ml 2,o1 (.bin .xor u1 u0),mt 0 12])
 .ret) (sq ([o1 (en k3 (.c (iz 17))),mt 0 10])
 (.cond k10 (sq ([ml 1,o1 (.neg u0),mt 0 12])
 .ret) (sq ([o1 (en k3 (.c (iz 18))),mt 0 11])
 (.cond k11 (sq ([ml 1,o1 (en u0 (.c (iz 0))),o1 (cf 233 [u0]),mt 0 12])
 .ret) .skip))))))))))))))))))
 (sq ([ml 0,ml 1,ml 2,o1 (cf 234 [u2,u1,u0]),o1 (cf 233 [u0]),mt 0 12])
 .ret))) [.val k12]
noncomputable def af229:AFunc:=.mk 2 (sq ([mc (.bool false) 2])
 (sq ([ml 0,o1 (.eq true .ptr u0 (.c .nilp)),m0,o3 (.move k1) 0 true,o3 (ge u0 (.c (iz 1))) 1 true,o1 (pk u2 u0 (.c (.bool false))),m0,o3 (.move k1) 0 true,o3 (.move k0) 1 true,o3 (nc u0) 2 true,o3 (fa 1 u0) 3 true,o3 (ld u0) 4 true,o3 (ll u0) 5 true,o3 (le u5 u0) 6 true,o1 (pk u7 u0 (.c (.bool false))),mt 0 2])
 .ret)) [.val k2]
noncomputable def af230:AFunc:=.mk 2 (sq ([mc (.bool false) 3])
 (sq ([ml 0,o1 (nc u0),o1 (fa 1 u0),o1 (ld u0),ml 1,o1 (sb u0 (.c (iz 1))),o1 (ia 3 u2 u0),o1 (fa 1 u0),o1 (ld u0),mt 0 2])
 (sq ([ml 2,o1 (nn u0 (.c (iz 0))),m0,o3 (.move k0) 0 true,o3 (.move k2) 1 true,o3 (cf 199 [u1,u0]) 2 true,o3 (.not u0) 3 true,o1 (pk u4 u0 (.c (.bool false))),mt 0 3])
 .ret))) [.val k3]
noncomputable def af231:AFunc:=.mk 3 (sq ([mc (iz 0) 9,mc (iz 0) 10])
 (.seq (sq ([ml 0,o2 (.eq false .ptr u0 (.c .nilp)) 3])
 (.cond k3 (sq ([mc (iz 0) 9,mc (iz 13) 10])
 .ret) .skip))
 (sq ([ml 0,o1 (nc u0),o1 (fa 0 u0),o1 (ld u0),ml 1,o1 (cf 108 [u1,u0]),m0,ox 0,ox 1,mt 1 7,mt 1 4])
 (.seq (.block 0 (sq ([ml 4,o1 (.not u0),m0,o3 (.move k2) 0 false,o3 (nn u0 (.c (iz 0))) 1 false,o3 (.move u0) 2 false,o3 (.move k0) 0 true,o3 (.move k2) 1 true,o3 (cf 199 [u1,u0]) 2 true,o3 (.not u0) 3 true,o3 (pk u4 u0 (.c (.bool false))) 7 false,o1 (pk u8 (.c (.bool true)) u0),mt 0 5])
 (.cond k5 (sq ([mc (iz 0) 9,mc (iz 13) 10])
 .ret) (sq ([ml 0,o1 (nc u0),o1 (fa 1 u0),o1 (ld u0),o1 (ll u0),o1 (en u0 (.c (iz 131072))),mt 0 6])
 (.cond k6 (sq ([mc (iz 0) 9,mc (iz 4) 10])
 .ret) .skip)))))
 (sq ([ml 0,ml 0,o1 (nc u0),o1 (fa 1 u0),o1 (ld u0),ml 7,ml 2,ml 0,o1 (nc u0),o1 (fa 0 u0),o1 (ld u0),ml 7,o1 (ia 2 u1 u0),o1 (fa 1 u0),o1 (ld u0),o1 (ll u0),o1 (.mkSlice [(iz 0)] 8 u0 u0),o1 (.build [(iz 0),(iz 0),.nils] [(.mk 0 1 u11),(.mk 1 1 u10),(.mk 2 1 u0)]),o1 (.bslice [(iz 0),(iz 0),.nils] 1 [(.mk 0 3 u0)]),o1 (ap 3 40 u14 u0),o1 (nc u19),o1 (fa 1 u0),o1 (st 1 u0 u2)])
 (.seq (sq ([ml 2,o2 (nn u0 (.c (iz 0))) 8])
 (.cond k8 (.ops [ml 0,o1 (nc u0),o1 (fa 3 u0),o1 (ld u0),o1 (ad u0 (.c (iz 1))),o1 (nc u4),o1 (fa 3 u0),o1 (st 1 u0 u2)]) .skip))
 (sq ([ml 0,o1 (nc u0),o1 (fa 1 u0),o1 (ld u0),o1 (ll u0),mt 0 9,mc (iz 0) 10])
 .ret))))))) [.val k9,.val k10]
noncomputable def af233:AFunc:=.mk 1 (sq ([mc (iz 0) 2])
 (.seq (sq ([o2 (.move k0) 1])
 (.cond k1 (sq ([mc (iz 1) 2])
 .ret) .skip))
 (sq ([mc (iz 0) 2])
 .ret))) [.val k2]
noncomputable def af234:AFunc:=.mk 3 (sq ([mc (.bool false) 9])
 (.seq (sq ([o2 (.move k0) 3])
 (.block 0 (sq ([o1 (en k3 (.c (iz 11))),mt 0 4])
 (.cond k4 (sq ([ml 1,ml 2,o1 (en u1 u0),mt 0 9])
 .ret) (sq ([o1 (en k3 (.c (iz 12))),mt 0 5])
 (.cond k5 (sq ([ml 1,ml 2,o1 (nn u1 u0),mt 0 9])
 .ret) (sq ([o1 (en k3 (.c (iz 13))),mt 0 6])
 (.cond k6 (sq ([ml 1,ml 2,o1 (ls u1 u0),mt 0 9])
 .ret) (sq ([o1 (en k3 (.c (iz 14))),mt 0 7])
 (.cond k7 (sq ([ml 1,ml 2,o1 (le u1 u0),mt 0 9])
 .ret) (sq ([o1 (en k3 (.c (iz 15))),mt 0 8])
 (.cond k8 (sq ([ml 1,ml 2,o1 (gt u1 u0),mt 0 9])
 .ret) .skip))))))))))))
 (sq ([ml 1,ml 2,o1 (ge u1 u0),mt 0 9])
 .ret))) [.val k9]
noncomputable def tabT:T AFunc:=(.node none (.node none (.node none (.node none (.node none (.node none (.node none (.node (some af127) .leaf .leaf) (.node (some af191) .leaf .leaf)) (.node none (.node (some af159) .leaf .leaf) .leaf)) (.node none (.node (some af79) (.node (some af143) .leaf .leaf) .leaf) (.node (some af111) (.node (some af175) .leaf .leaf) .leaf))) (.node (some af23) (.node (some af39) (.node (some af71) .leaf (.node (some af199) .leaf .leaf)) (.node none (.node (some af167) .leaf .leaf) (.node (some af231) .leaf .leaf))) (.node none (.node none (.node (some af151) .leaf .leaf) (.node (some af215) .leaf .leaf)) (.node (some af119) (.node (some af183) .leaf .leaf) .leaf)))) (.node (some af11) (.node (some af19) (.node (some af35) (.node (some af67) .leaf (.node (some af195) .leaf .leaf)) (.node none (.node (some af163) .leaf .leaf) (.node (some af227) .leaf .leaf))) (.node none (.node none (.node (some af147) .leaf .leaf) .leaf) (.node (some af115) (.node (some af179) .leaf .leaf) .leaf))) (.node none (.node (some af43) .leaf (.node (some af107) .leaf .leaf)) (.node none (.node none (.node (some af155) .leaf .leaf) .leaf) (.node (some af123) (.node (some af187) .leaf .leaf) .leaf))))) (.node none (.node none (.node (some af17) (.node none (.node (some af65) (.node (some af129) .leaf .leaf) (.node (some af193) .leaf .leaf)) (.node none (.node (some af161) .leaf .leaf) (.node (some af225) .leaf .leaf))) (.node none (.node none (.node (some af145) .leaf .leaf) .leaf) (.node (some af113) (.node (some af177) .leaf .leaf) .leaf))) (.node (some af25) (.node (some af41) (.node (some af73) (.node (some af137) .leaf .leaf) .leaf) (.node (some af105) .leaf (.node (some af233) .leaf .leaf))) (.node none (.node none (.node (some af153) .leaf .leaf) (.node (some af217) .leaf .leaf)) (.node (some af121) (.node (some af185) .leaf .leaf) .leaf)))) (.node none (.node (some af21) (.node (some af37) (.node (some af69) .leaf (.node (some af197) .leaf .leaf)) (.node none (.node (some af165) .leaf .leaf) (.node (some af229) .leaf .leaf))) (.node none (.node none (.node (some af149) .leaf .leaf) (.node (some af213) .leaf .leaf)) (.node (some af117) .leaf .leaf))) (.node (some af29) (.node (some af45) (.node (some af77) (.node (some af141) .leaf .leaf) .leaf) (.node (some af109) (.node (some af173) .leaf .leaf) .leaf)) (.node none (.node none (.node (some af157) .leaf .leaf) .leaf) (.node (some af125) .leaf .leaf)))))) (.node none (.node none (.node (some af8) (.node (some af16) (.node none (.node (some af64) (.node (some af128) .leaf .leaf) (.node (some af192) .leaf .leaf)) (.node none (.node (some af160) .leaf .leaf) (.node (some af224) .leaf .leaf))) (.node none (.node none (.node (some af144) .leaf .leaf) .leaf) (.node (some af112) (.node (some af176) .leaf .leaf) .leaf))) (.node none (.node (some af40) (.node (some af72) (.node (some af136) .leaf .leaf) (.node (some af200) .leaf .leaf)) (.node (some af104) .leaf .leaf)) (.node none (.node none (.node (some af152) .leaf .leaf) (.node (some af216) .leaf .leaf)) (.node (some af120) (.node (some af184) .leaf .leaf) .leaf)))) (.node none (.node (some af20) (.node (some af36) (.node (some af68) (.node (some af132) .leaf .leaf) (.node (some af196) .leaf .leaf)) (.node none (.node (some af164) .leaf .leaf) (.node (some af228) .leaf .leaf))) (.node none (.node none (.node (some af148) .leaf .leaf) (.node (some af212) .leaf .leaf)) (.node (some af116) (.node (some af180) .leaf .leaf) .leaf))) (.node none (.node (some af44) (.node (some af76) .leaf .leaf) (.node (some af108) .leaf .leaf)) (.node none (.node none (.node (some af156) .leaf .leaf) .leaf) (.node (some af124) (.node (some af188) .leaf .leaf) .leaf))))) (.node none (.node none (.node none (.node none (.node (some af66) (.node (some af130) .leaf .leaf) (.node (some af194) .leaf .leaf)) (.node none (.node (some af162) .leaf .leaf) (.node (some af226) .leaf .leaf))) (.node none (.node none (.node (some af146) .leaf .leaf) .leaf) (.node (some af114) (.node (some af178) .leaf .leaf) .leaf))) (.node none (.node (some af42) (.node none (.node (some af138) .leaf .leaf) .leaf) (.node (some af106) (.node (some af170) .leaf .leaf) (.node (some af234) .leaf .leaf))) (.node none (.node none (.node (some af154) .leaf .leaf) .leaf) (.node (some af122) (.node (some af186) .leaf .leaf) .leaf)))) (.node none (.node none (.node none (.node (some af70) .leaf (.node (some af198) .leaf .leaf)) (.node none (.node (some af166) .leaf .leaf) (.node (some af230) .leaf .leaf))) (.node none (.node none (.node (some af150) .leaf .leaf) (.node (some af214) .leaf .leaf)) (.node (some af118) (.node (some af182) .leaf .leaf) .leaf))) (.node none (.node (some af46) (.node (some af78) (.node (some af142) .leaf .leaf) .leaf) (.node (some af110) (.node (some af174) .leaf .leaf) .leaf)) (.node none (.node none (.node (some af158) .leaf .leaf) .leaf) (.node (some af126) .leaf .leaf)))))))
end Go.Ev
namespace Go.Ev
open Go
structure PV(tab:Nat->Option AFunc):Prop where
 t8:tab 8=some af8
 t11:tab 11=some af11
 t16:tab 16=some af16
 t17:tab 17=some af17
 t20:tab 20=some af20
 t21:tab 21=some af21
 t23:tab 23=some af23
 t25:tab 25=some af25
 t29:tab 29=some af29
 t35:tab 35=some af35
 t36:tab 36=some af36
 t37:tab 37=some af37
 t39:tab 39=some af39
 t40:tab 40=some af40
 t41:tab 41=some af41
 t42:tab 42=some af42
 t43:tab 43=some af43
 t44:tab 44=some af44
 t45:tab 45=some af45
 t46:tab 46=some af46
 t64:tab 64=some af64
 t65:tab 65=some af65
 t66:tab 66=some af66
 t67:tab 67=some af67
 t68:tab 68=some af68
 t69:tab 69=some af69
 t70:tab 70=some af70
 t71:tab 71=some af71
 t72:tab 72=some af72
 t73:tab 73=some af73
 t76:tab 76=some af76
 t77:tab 77=some af77
 t78:tab 78=some af78
 t79:tab 79=some af79
 t104:tab 104=some af104
 t105:tab 105=some af105
 t106:tab 106=some af106
 t107:tab 107=some af107
 t108:tab 108=some af108
 t109:tab 109=some af109
 t110:tab 110=some af110
 t111:tab 111=some af111
 t112:tab 112=some af112
 t113:tab 113=some af113
 t114:tab 114=some af114
 t115:tab 115=some af115
 t116:tab 116=some af116
 t117:tab 117=some af117
 t118:tab 118=some af118
 t119:tab 119=some af119
 t120:tab 120=some af120
 t121:tab 121=some af121
 t122:tab 122=some af122
 t123:tab 123=some af123
 t124:tab 124=some af124
 t125:tab 125=some af125
 t126:tab 126=some af126
 t127:tab 127=some af127
 t128:tab 128=some af128
 t129:tab 129=some af129
 t130:tab 130=some af130
 t132:tab 132=some af132
 t136:tab 136=some af136
 t137:tab 137=some af137
 t138:tab 138=some af138
 t141:tab 141=some af141
 t142:tab 142=some af142
 t143:tab 143=some af143
 t144:tab 144=some af144
 t145:tab 145=some af145
 t146:tab 146=some af146
 t147:tab 147=some af147
 t148:tab 148=some af148
 t149:tab 149=some af149
 t150:tab 150=some af150
 t151:tab 151=some af151
 t152:tab 152=some af152
 t153:tab 153=some af153
 t154:tab 154=some af154
 t155:tab 155=some af155
 t156:tab 156=some af156
 t157:tab 157=some af157
 t158:tab 158=some af158
 t159:tab 159=some af159
 t160:tab 160=some af160
 t161:tab 161=some af161
 t162:tab 162=some af162
 t163:tab 163=some af163
 t164:tab 164=some af164
 t165:tab 165=some af165
 t166:tab 166=some af166
 t167:tab 167=some af167
 t170:tab 170=some af170
 t174:tab 174=some af174
 t175:tab 175=some af175
 t176:tab 176=some af176
 t177:tab 177=some af177
 t178:tab 178=some af178
 t179:tab 179=some af179
 t180:tab 180=some af180
 t182:tab 182=some af182
 t183:tab 183=some af183
 t184:tab 184=some af184
 t185:tab 185=some af185
 t186:tab 186=some af186
 t187:tab 187=some af187
 t188:tab 188=some af188
 t191:tab 191=some af191
 t192:tab 192=some af192
 t193:tab 193=some af193
 t194:tab 194=some af194
 t195:tab 195=some af195
 t196:tab 196=some af196
 t197:tab 197=some af197
 t198:tab 198=some af198
 t199:tab 199=some af199
 t200:tab 200=some af200
 t212:tab 212=some af212
 t213:tab 213=some af213
 t214:tab 214=some af214
 t215:tab 215=some af215
 t216:tab 216=some af216
 t217:tab 217=some af217
 t224:tab 224=some af224
 t225:tab 225=some af225
 t226:tab 226=some af226
 t227:tab 227=some af227
 t228:tab 228=some af228
 t229:tab 229=some af229
 t230:tab 230=some af230
 t231:tab 231=some af231
 t233:tab 233=some af233
 t234:tab 234=some af234
theorem LITS:(∀n:Nat,iz n=.int .i64 (n:Int))/\AV.str 1 42=sv [42]/\AV.str 1 84=sv [84]/\AV.str 2 21546=sv [42,84]/\AV.str 2 26217=sv [105,102]/\AV.str 3 7104878=sv [110,105,108]/\AV.str 3 7496054=sv [118,97,114]/\AV.str 3 7499622=sv [102,111,114]/\AV.str 3 7630441=sv [105,110,116]/\AV.str 3 7824750=sv [110,101,119]/\AV.str 4 1668183398=sv [102,117,110,99]/\AV.str 4 1684104562=sv [114,101,97,100]/\AV.str 4 1701869940=sv [116,121,112,101]/\AV.str 4 1702063205=sv [101,108,115,101]/\AV.str 4 1702195828=sv [116,114,117,101]/\AV.str 4 1819242338=sv [98,111,111,108]/\AV.str 4 1852399981=sv [109,97,105,110]/\AV.str 5 435728179558=sv [102,97,108,115,101]/\AV.str 5 500068610672=sv [112,114,105,110,116]/\AV.str 6 121437875889522=sv [114,101,116,117,114,110]/\AV.str 6 127970521019507=sv [115,116,114,117,99,116]/\AV.str 18 8838634371626034279618351153450530198413667=sv [99,97,110,110,111,116,32,98,101,32,110,101,103,97,116,105,118,101]/\AV.str 40 963418128638552869720407654453272125421877327008697887680703274632671259614598848762731909441652=sv [116,104,101,32,114,101,115,117,108,116,32,111,102,32,40,108,101,110,40,120,41,32,42,32,99,111,117,110,116,41,32,111,118,101,114,102,108,111,119,115]:=⟨λ_=>rfl,rfl,rfl,rfl,rfl,rfl,rfl,rfl,rfl,rfl,rfl,rfl,rfl,rfl,rfl,rfl,rfl,rfl,rfl,rfl,rfl,rfl,rfl⟩
def RL:=q0b RN (q0b LITS (q0b @Nat.succ_eq_add_one (q0b @ite_ne @ite_same)))
def BL:=q0b RB (q0b LITS (q0b @Nat.succ_eq_add_one (q0b @ite_ne @ite_same)))
abbrev Str:=List UInt8
def CapOK(n off es sz:Nat):ACap->Prop
 | .known c=>n<=c
 | .rest e=>e=es/\1<=es/\off+n*es<=sz
def SlV{α:Type}(h:AH)(es:Nat)(R:List AV->α->Prop)(v:AV)(xs:List α):Prop:=
 (xs=[]/\(v=.nils\/∃id off cap,v=.sl id off 0 (.known cap)))\/∃id off cap sz c p ro,v=.sl id off xs.length cap/\CapOK xs.length off es sz cap/\h.mem.get id=some (.cells c sz p ro)/\id<h.next/\xs.length<=zBp/\∀i (hi:i<xs.length),∃E,E.length=es/\R E xs[i]/\loadL c es (off+i*es)=some E
section
variable{α:Type}{h h':AH}{es:Nat}{R:List AV->α->Prop}{v:AV}{xs:List α}
theorem SlV.len(a:SlV h es R v xs):∀h',oLen .sl (.c v) .leaf [] h'=.val (.int .i64 (xs.length:Int)) h':=by
 rcases a with⟨rfl,rfl | ⟨id,off,cap,rfl⟩⟩ | ⟨id,off,cap,sz,c,p,ro,rfl,_⟩
 ·exact λ_=>rfl
 ·exact λ_=>zGw
 ·exact λ_=>zGw
theorem SlV.mv0(a:SlV h es R v xs):v.mv=true:=by
 rcases a with⟨rfl,rfl | ⟨id,off,cap,rfl⟩⟩ | ⟨id,off,cap,sz,c,p,ro,rfl,_⟩<;>rfl
theorem SlV.mv(a:SlV h es R v xs):∀h',oMove (.c v) .leaf [] h'=.val v h':=λ_=>zAh a.mv0
theorem SlV.cell(a:SlV h es R v xs):cellsOf v=some [v]:=by
 rcases a with⟨rfl,rfl | ⟨id,off,cap,rfl⟩⟩ | ⟨id,off,cap,sz,c,p,ro,rfl,_⟩<;>rfl
theorem SlV.bound(a:SlV h es R v xs):xs.length<=maxLen:=by
 rcases a with⟨rfl,_⟩ | ⟨id,off,cap,sz,c,p,ro,rfl,_,_,_,h,_⟩
 ·exact q0k _
 ·exact q0m h (by decide)
theorem SlV.boundS(a:SlV h es R v xs):xs.length<=zBp:=by
 rcases a with⟨rfl,_⟩ | ⟨id,off,cap,sz,c,p,ro,rfl,_,_,_,h,_⟩
 ·exact q0k _
 ·exact h
theorem SlV.more(a:SlV h es R v xs)(m:More h h'){R':List AV->α->Prop}(hR:∀E x,R E x->R' E x):SlV h' es R' v xs:=by
 rcases a with a | ⟨id,off,cap,sz,c,p,ro,e,ck,g,hi,hb,ha⟩
 ·exact .inl a
 ·exact .inr ⟨id,off,cap,sz,c,p,ro,e,ck,(m.keep id hi).trans g,q0d hi m.next,hb,λi hi=>let⟨E,a,b,c⟩:=ha i hi;⟨E,a,hR _ _ b,c⟩⟩
theorem SlV.at(a:SlV h es R v xs){i:Nat}(hi:i<xs.length):∃id o E,(∀h' k,zCy es (.c v) (.c (.int k (i:Int))) .leaf [] h'=.val (.ptr id o) h')/\E.length=es/\R E xs[i]/\(∀h' [MoreC h h'],zAu es (.c (.ptr id o)) .leaf [] h'=.val (.agg E) h')/\
  ∀j x,E[j]?=some x->∀h' [MoreC h h'],oLoad (.c (.ptr id (o+j))) .leaf [] h'=.val x h':=by
 rcases a with⟨rfl,_⟩ | ⟨id,off,cap,sz,c,p,ro,rfl,ck,g,hid,hb,ha⟩
 ·cases hi
 ·obtain⟨E,e1,e2,e3⟩:=ha i hi;refine⟨id,off+i*es,E,λh' k=>idx_sl hi,e1,e2,λh' m=>zAn (kp g hid) e3,λj x hj h' m=>zA3 (kp g hid) ?_⟩;have:=(zCg e3).2 j (by rw[<-e1];exact(List.getElem?_eq_some_iff.mp hj).1);rw[this,hj]
theorem SlV.take(a:SlV h es R v xs){i:Nat}(hi:i<=xs.length):∃v',(∀kill h' [MoreC h h'],zAs kill es (.c v) none (some (.c (.int .i64 (i:Int)))) none .leaf [] h'=.val v' h')/\SlV h es R v' (xs.take i):=by
 rcases a with⟨rfl,rfl | ⟨id,off,cap,rfl⟩⟩ | ⟨id,off,cap,sz,c,p,ro,rfl,ck,g,hid,hb,ha⟩
 ·obtain rfl:i=0:=by simpa using hi
  exact⟨.nils,λ_ _ _=>rfl,.inl ⟨rfl,.inl rfl⟩⟩
 ·obtain rfl:i=0:=by simpa using hi
  refine⟨.sl id off 0 (.known cap),λkill h' _=>?_,.inl ⟨rfl,.inr ⟨_,_,_,rfl⟩⟩⟩;show bi (Nat.ble cap cap) (bi (Nat.ble 0 cap) (bi (Nat.ble 0 0) (fN (Nat.sub 0 0) λn=>fN (Nat.sub cap 0) λm=>bi (Nat.beq m 0) (OR.val (AV.sl id off n (ACap.known m)) h') (fN (Nat.add off (Nat.mul 0 es)) λoff=>OR.val (AV.sl id off n (ACap.known m)) h')) (F 35)) (F 35)) (F 35)=_;rw[bi_eq,if_pos (Nat.ble_eq.mpr (q0c _)),bi_eq,if_pos (Nat.ble_eq.mpr (q0k _)),bi_eq,if_pos (Nat.ble_eq.mpr (q0c _)),fN_eq,fN_eq,fN_eq];have e:Nat.add off (Nat.mul 0 es)=off:=by simp
  rw[e];show bi (Nat.beq cap 0) _ _=_;rw[bi_eq];split<;>rfl
 ·have hl:(xs.take i).length=i:=by simp;omega
  refine⟨.sl id off i cap,λkill h' _=>?_,.inr ⟨id,off,cap,sz,c,p,ro,by rw[hl],?_,g,hid,by rw[hl];omega,λj hj=>?_⟩⟩
  ·cases cap with
   | known cp=>
    have ck:xs.length<=cp:=ck;show bi (Nat.ble cp cp) (bi (Nat.ble i cp) (bi (Nat.ble 0 i) (fN (Nat.sub i 0) λn=>fN (Nat.sub cp 0) λm=>bi (Nat.beq m 0) (OR.val (AV.sl id off n (ACap.known m)) h') (fN (Nat.add off (Nat.mul 0 es)) λoff=>OR.val (AV.sl id off n (ACap.known m)) h')) (F 35)) (F 35)) (F 35)=_;rw[bi_eq,if_pos (Nat.ble_eq.mpr (q0c _)),bi_eq,if_pos (Nat.ble_eq.mpr (by omega)),bi_eq,if_pos (Nat.ble_eq.mpr (q0k _)),fN_eq,fN_eq,fN_eq];have e:Nat.add off (Nat.mul 0 es)=off:=by simp
    rw[e];show bi (Nat.beq cp 0) _ _=_;rw[bi_eq];split<;>rfl
   | rest e=>
    obtain⟨rfl,h1,h2⟩:=ck;have hm:=q0u e hi;have g':h'.mem.get id=some (.cells c sz p ro):=kp g hid;show bi (Nat.beq e e) (bi (Nat.ble 1 e) (zAr (AH.get h' id) _) _) _=_;rw[bi_eq,if_pos (q0K _),bi_eq,if_pos (Nat.ble_eq.mpr h1),q2f,g'];have key:∀B,bi (Nat.ble (Nat.add off (Nat.mul i e)) sz) (bi (Nat.ble 0 i) (bi (Nat.beq 0 0) (OR.val (AV.sl id off i (ACap.rest e)) h') B) (F 36)) (F 36)=OR.val (AV.sl id off i (ACap.rest e)) h':=by
     intro B;rw[bi_eq,if_pos (Nat.ble_eq.mpr (by show off+i*e<=sz;omega)),bi_eq,if_pos (Nat.ble_eq.mpr (q0k _))];rfl
    exact key _
  ·rw[hl];cases cap with
   | known cp=>exact q0m hi ck
   | rest e=>
    obtain⟨rfl,h1,h2⟩:=ck;have hm:=q0u e hi;exact⟨rfl,h1,by omega⟩
  ·have hj':j<xs.length:=by omega
   obtain⟨E,a,b,c⟩:=ha j hj';exact⟨E,a,by rw[List.getElem_take];exact b,c⟩
theorem zCe{kill:Bool}{n:Nat}{x hi:Opd}{loc:T AV}{tmp:List AV}:evOp (.sliceV kill n x none (some hi) none) loc tmp h=zAs kill n (.c (ev loc tmp x)) none (some (.c (ev loc tmp hi))) none .leaf [] h:=rfl
theorem zBx{kill:Bool}{n:Nat}{x lo:Opd}{loc:T AV}{tmp:List AV}:evOp (.sliceV kill n x (some lo) none none) loc tmp h=zAs kill n (.c (ev loc tmp x)) (some (.c (ev loc tmp lo))) none none .leaf [] h:=rfl
theorem SlV.of(a:SlD h es R v xs):SlV h es R v xs:=by
 cases a with
 | nils=>exact .inl ⟨rfl,.inl rfl⟩
 | emp=>exact .inl ⟨rfl,.inr ⟨_,_,_,rfl⟩⟩
 | sl E a b c d e=>
  refine .inr ⟨_,_,_,_,_,_,_,rfl,a,c,d,by omega,λi hi=>⟨E i,(e i hi).1,(e i hi).2.2,?_⟩⟩;have h1:=(e i hi).1;have h2:=(e i hi).2.1;have key:∀(l:List AV) (c:T AV) (off:Nat),(∀j,j<l.length->c.get (off+j)=l[j]?)->loadL c l.length off=some l:=by
   intro l;induction l with
   | nil=>intro c off _;rfl
   | cons v l ih=>intro c off h;exact zBj (by have:=h 0 (by simp);simpa using this) (ih c (off+1) λj hj=>by have:=h (j+1) (by simpa using hj);rw[show off+1+j=off+(j+1) by omega];simpa using this)
  have:=key (E i) _ _ (λj hj=>h2 j (by omega));rw[h1] at this;exact this
end
def StructV(h:AH)(cs:List AV)(x:zBa):Prop:=∃vf,cs=[sv x.name,vf]/\SlV h 2 zDi vf x.fields/\x.name.length<=maxLen
def InsV(h:AH)(cs:List AV)(x:InsD):Prop:=∃va,cs=[.int .i64 x.op,sv x.typ,va,.int .i64 x.n,sv x.name]/\SlV h 1 IntR va x.args/\I64 x.op/\I64 x.n/\x.typ.length<=maxLen/\x.name.length<=zBp
def BlkV(h:AH)(cs:List AV)(x:BlkD):Prop:=∃vl,cs=[vl,.int .i64 x.jump,.int .i64 x.arg,.int .i64 x.to0,.int .i64 x.to1]/\SlV h 1 IntR vl x.list/\I64 x.jump/\I64 x.arg/\I64 x.to0/\I64 x.to1
def FunV(h:AH)(cs:List AV)(x:FunD):Prop:=∃vp vs vi vb,cs=[sv x.name,vp,sv x.result,vs,vi,vb]/\SlV h 1 StrR vp x.params/\SlV h 1 StrR vs x.slots/\SlV h 5 (InsV h) vi x.ins/\SlV h 5 (BlkV h) vb x.blocks/\x.name.length<=maxLen/\x.result.length<=maxLen
def ProgV(h:AH)(cs:List AV)(x:ProgD):Prop:=∃vs vg vf,cs=[vs,vg,vf]/\SlV h 2 (StructV h) vs x.structs/\SlV h 2 zDi vg x.globals/\SlV h 6 (FunV h) vf x.funs
section
variable{h h':AH}{E:List AV}
theorem StructV.more{x:zBa}(r:StructV h E x)(m:More h h'):StructV h' E x:=let⟨v,a,b,c⟩:=r;⟨v,a,b.more m λ_ _=>id,c⟩
theorem InsV.more{x:InsD}(r:InsV h E x)(m:More h h'):InsV h' E x:=let⟨v,a,b,c⟩:=r;⟨v,a,b.more m λ_ _=>id,c⟩
theorem BlkV.more{x:BlkD}(r:BlkV h E x)(m:More h h'):BlkV h' E x:=let⟨v,a,b,c⟩:=r;⟨v,a,b.more m λ_ _=>id,c⟩
theorem FunV.more{x:FunD}(r:FunV h E x)(m:More h h'):FunV h' E x:=let⟨p,s,i,b,e,r1,r2,r3,r4,r5⟩:=r;⟨p,s,i,b,e,r1.more m λ_ _=>id,r2.more m λ_ _=>id,r3.more m λ_ _ r=>r.more m,r4.more m λ_ _ r=>r.more m,r5⟩
theorem ProgV.more{x:ProgD}(r:ProgV h E x)(m:More h h'):ProgV h' E x:=let⟨s,g,f,e,r1,r2,r3⟩:=r;⟨s,g,f,e,r1.more m λ_ _ r=>r.more m,r2.more m λ_ _=>id,r3.more m λ_ _ r=>r.more m⟩
theorem SlV.wk{α:Type}{es:Nat}{R R':List AV->α->Prop}{v:AV}{xs:List α}(a:SlV h es R v xs)(hR:∀E x,R E x->R' E x):SlV h es R' v xs:=a.more (q2o h) hR
theorem ProgV.of{x:ProgD}(r:ProgR h E x):ProgV h E x:=by
 obtain⟨s,g,f,e,r1,r2,r3⟩:=r;refine⟨s,g,f,e,(SlV.of r1).wk λE x ⟨v,a,b,c⟩=>⟨v,a,.of b,c⟩,.of r2,(SlV.of r3).wk λE x ⟨p,s,i,b,e,r1,r2,r3,r4,r5⟩=>⟨p,s,i,b,e,.of r1,.of r2,(SlV.of r3).wk λE x ⟨v,a,b,c⟩=>⟨v,a,.of b,c⟩,(SlV.of r4).wk λE x ⟨v,a,b,c⟩=>⟨v,a,.of b,c⟩,r5⟩⟩
end
def idxP{α:Type}(xs:List α)(q:α->Bool):Int:=match xs.findIdx? q with | some i=>(i:Int) | none=>-1
theorem zEf{α:Type}{xs:List α}{q:α->Bool}{k:Nat}(hk:k<xs.length)(h:∀i,i<k->(hi:i<xs.length)->q xs[i]=false)(e:q xs[k]=true):idxP xs q=(k:Int):=by
 unfold idxP;rw[List.findIdx?_eq_some_iff_getElem.mpr ⟨hk,e,λj hj=>by rw[h j hj (by omega)];simp⟩]
theorem zB5{α:Type}{xs:List α}{q:α->Bool}(h:∀i,(hi:i<xs.length)->q xs[i]=false):idxP xs q=-1:=by
 unfold idxP;rw[List.findIdx?_eq_none_iff.mpr λx hx=>by obtain⟨j,hj,rfl⟩:=q0y hx;exact h j hj]
theorem zJm{α:Type}{xs:List α}{q:α->Bool}:decide ((0:Int)<=idxP xs q)=xs.any q:=by
 cases h:xs.findIdx? q with
 | none=>
  have:idxP xs q=-1:=by unfold idxP;rw[h]
  rw[this];rw[List.findIdx?_eq_none_iff] at h;have:xs.any q=false:=by rw[List.any_eq_false];intro x hx;simp[h x hx]
  rw[this];rfl
 | some i=>
  have e:idxP xs q=i:=by unfold idxP;rw[h]
  obtain⟨h1,h2,_⟩:=List.findIdx?_eq_some_iff_getElem.mp h;have:xs.any q=true:=List.any_eq_true.mpr ⟨_,q0l h1,h2⟩;rw[this,e];simp
theorem neg1:Int.negSucc 0=-1:=rfl
section
variable{tab:Nat->Option AFunc}{h:AH}(H:PV tab)
include H in
theorem idxStruct_gp{α:Type}{R:List AV->α->Prop}{v:AV}{xs:List α}{f:Nat}{caps:List AV}{p:α->Bool}(a:SlV h 2 R v xs)(hq:∀h1,More h h1->∀E,∀x∈xs,R E x->GP tab f (.agg E::caps) h1 λw h2=>w=.bool (p x)/\More h1 h2):GP tab 148 [v,.fn f [] caps] h λw h1=>w=.int .i64 (idxP xs p)/\More h h1:=by
 have i0:zAb [v,.fn f [] caps]=zAa [v,.fn f [] caps]:=rfl;have mv:=a.mv;have ln:=a.len;have hb:=a.bound;unfold maxLen at hb;refine gpr H.t148 ?_;simp+decide(disch:=omega)only[RL,↓reduceIte,i0,mv,ln];refine zAc (λm l d1 h1=>∃k,m=xs.length-k/\k<=xs.length/\d1=[]/\More h h1/\l.get 0=some v/\l.get 1=some (.fn f [] caps)/\l.get 2=some (.int .i64 (k:Int))/\l.get 3=some (.int .i64 (xs.length:Int))/\∀i,i<k->(hi:i<xs.length)->p xs[i]=false) ?_ (xs.length-0) ⟨0,rfl,q0k _,rfl,q2o h,rfl,rfl,rfl,rfl,λi hi=>by omega⟩;rintro m l d1 h1 ⟨k,rfl,hk,rfl,m1,l0,l1,l2,l3,hall⟩;haveI:MoreC h h1:=⟨m1⟩;by_cases hlt:k<xs.length
 ·obtain⟨id,o,E,ix,e1,r,ld,lw⟩:=a.at hlt
  skip
  simp+decide(disch:=omega)only[RL,↓reduceIte,l0,l1,l2,l3,hlt,mv,ix,ld];rw[ge_nh (hq h1 m1 E _ (q0l hlt) r)];cases he:p xs[k] with
  | true=>simp+decide(disch:=omega)only[RL,↓reduceIte,l2,moreT,zEf hlt hall he]
  | false=>
   simp+decide(disch:=omega)only[RL,↓reduceIte,l2];refine⟨xs.length-(k+1),by omega,k+1,rfl,hlt,m1.trans zFm,l0,l1,rfl,l3,λi hi hi'=>?_⟩;by_cases e:i=k
   ·subst e;exact he
   ·exact hall i (by omega) hi'
 ·have hn:=zB5 λi hi=>hall i (by omega) hi;simp+decide(disch:=omega)only[RL,↓reduceIte,l2,l3,hlt,moreT,neg1,hn]
include H in
theorem idxField_gp{α:Type}{R:List AV->α->Prop}{v:AV}{xs:List α}{f:Nat}{caps:List AV}{p:α->Bool}(a:SlV h 2 R v xs)(hq:∀h1,More h h1->∀E,∀x∈xs,R E x->GP tab f (.agg E::caps) h1 λw h2=>w=.bool (p x)/\More h1 h2):GP tab 200 [v,.fn f [] caps] h λw h1=>w=.int .i64 (idxP xs p)/\More h h1:=by
 have i0:zAb [v,.fn f [] caps]=zAa [v,.fn f [] caps]:=rfl;have mv:=a.mv;have ln:=a.len;have hb:=a.bound;unfold maxLen at hb;refine gpr H.t200 ?_;simp+decide(disch:=omega)only[RL,↓reduceIte,i0,mv,ln];refine zAc (λm l d1 h1=>∃k,m=xs.length-k/\k<=xs.length/\d1=[]/\More h h1/\l.get 0=some v/\l.get 1=some (.fn f [] caps)/\l.get 2=some (.int .i64 (k:Int))/\l.get 3=some (.int .i64 (xs.length:Int))/\∀i,i<k->(hi:i<xs.length)->p xs[i]=false) ?_ (xs.length-0) ⟨0,rfl,q0k _,rfl,q2o h,rfl,rfl,rfl,rfl,λi hi=>by omega⟩;rintro m l d1 h1 ⟨k,rfl,hk,rfl,m1,l0,l1,l2,l3,hall⟩;haveI:MoreC h h1:=⟨m1⟩;by_cases hlt:k<xs.length
 ·obtain⟨id,o,E,ix,e1,r,ld,lw⟩:=a.at hlt
  skip
  simp+decide(disch:=omega)only[RL,↓reduceIte,l0,l1,l2,l3,hlt,mv,ix,ld];rw[ge_nh (hq h1 m1 E _ (q0l hlt) r)];cases he:p xs[k] with
  | true=>simp+decide(disch:=omega)only[RL,↓reduceIte,l2,moreT,zEf hlt hall he]
  | false=>
   simp+decide(disch:=omega)only[RL,↓reduceIte,l2];refine⟨xs.length-(k+1),by omega,k+1,rfl,hlt,m1.trans zFm,l0,l1,rfl,l3,λi hi hi'=>?_⟩;by_cases e:i=k
   ·subst e;exact he
   ·exact hall i (by omega) hi'
 ·have hn:=zB5 λi hi=>hall i (by omega) hi;simp+decide(disch:=omega)only[RL,↓reduceIte,l2,l3,hlt,moreT,neg1,hn]
include H in
theorem idxFun_gp{α:Type}{R:List AV->α->Prop}{v:AV}{xs:List α}{f:Nat}{caps:List AV}{p:α->Bool}(a:SlV h 6 R v xs)(hq:∀h1,More h h1->∀E,∀x∈xs,R E x->GP tab f (.agg E::caps) h1 λw h2=>w=.bool (p x)/\More h1 h2):GP tab 109 [v,.fn f [] caps] h λw h1=>w=.int .i64 (idxP xs p)/\More h h1:=by
 have i0:zAb [v,.fn f [] caps]=zAa [v,.fn f [] caps]:=rfl;have mv:=a.mv;have ln:=a.len;have hb:=a.bound;unfold maxLen at hb;refine gpr H.t109 ?_;simp+decide(disch:=omega)only[RL,↓reduceIte,i0,mv,ln];refine zAc (λm l d1 h1=>∃k,m=xs.length-k/\k<=xs.length/\d1=[]/\More h h1/\l.get 0=some v/\l.get 1=some (.fn f [] caps)/\l.get 2=some (.int .i64 (k:Int))/\l.get 3=some (.int .i64 (xs.length:Int))/\∀i,i<k->(hi:i<xs.length)->p xs[i]=false) ?_ (xs.length-0) ⟨0,rfl,q0k _,rfl,q2o h,rfl,rfl,rfl,rfl,λi hi=>by omega⟩;rintro m l d1 h1 ⟨k,rfl,hk,rfl,m1,l0,l1,l2,l3,hall⟩;haveI:MoreC h h1:=⟨m1⟩;by_cases hlt:k<xs.length
 ·obtain⟨id,o,E,ix,e1,r,ld,lw⟩:=a.at hlt
  skip
  simp+decide(disch:=omega)only[RL,↓reduceIte,l0,l1,l2,l3,hlt,mv,ix,ld];rw[ge_nh (hq h1 m1 E _ (q0l hlt) r)];cases he:p xs[k] with
  | true=>simp+decide(disch:=omega)only[RL,↓reduceIte,l2,moreT,zEf hlt hall he]
  | false=>
   simp+decide(disch:=omega)only[RL,↓reduceIte,l2];refine⟨xs.length-(k+1),by omega,k+1,rfl,hlt,m1.trans zFm,l0,l1,rfl,l3,λi hi hi'=>?_⟩;by_cases e:i=k
   ·subst e;exact he
   ·exact hall i (by omega) hi'
 ·have hn:=zB5 λi hi=>hall i (by omega) hi;simp+decide(disch:=omega)only[RL,↓reduceIte,l2,l3,hlt,moreT,neg1,hn]
include H in
theorem idxBlock_gp{α:Type}{R:List AV->α->Prop}{v:AV}{xs:List α}{f:Nat}{caps:List AV}{p:α->Bool}(a:SlV h 5 R v xs)(hq:∀h1,More h h1->∀E,∀x∈xs,R E x->GP tab f (.agg E::caps) h1 λw h2=>w=.bool (p x)/\More h1 h2):GP tab 152 [v,.fn f [] caps] h λw h1=>w=.int .i64 (idxP xs p)/\More h h1:=by
 have i0:zAb [v,.fn f [] caps]=zAa [v,.fn f [] caps]:=rfl;have mv:=a.mv;have ln:=a.len;have hb:=a.bound;unfold maxLen at hb;refine gpr H.t152 ?_;simp+decide(disch:=omega)only[RL,↓reduceIte,i0,mv,ln];refine zAc (λm l d1 h1=>∃k,m=xs.length-k/\k<=xs.length/\d1=[]/\More h h1/\l.get 0=some v/\l.get 1=some (.fn f [] caps)/\l.get 2=some (.int .i64 (k:Int))/\l.get 3=some (.int .i64 (xs.length:Int))/\∀i,i<k->(hi:i<xs.length)->p xs[i]=false) ?_ (xs.length-0) ⟨0,rfl,q0k _,rfl,q2o h,rfl,rfl,rfl,rfl,λi hi=>by omega⟩;rintro m l d1 h1 ⟨k,rfl,hk,rfl,m1,l0,l1,l2,l3,hall⟩;haveI:MoreC h h1:=⟨m1⟩;by_cases hlt:k<xs.length
 ·obtain⟨id,o,E,ix,e1,r,ld,lw⟩:=a.at hlt
  skip
  simp+decide(disch:=omega)only[RL,↓reduceIte,l0,l1,l2,l3,hlt,mv,ix,ld];rw[ge_nh (hq h1 m1 E _ (q0l hlt) r)];cases he:p xs[k] with
  | true=>simp+decide(disch:=omega)only[RL,↓reduceIte,l2,moreT,zEf hlt hall he]
  | false=>
   simp+decide(disch:=omega)only[RL,↓reduceIte,l2];refine⟨xs.length-(k+1),by omega,k+1,rfl,hlt,m1.trans zFm,l0,l1,rfl,l3,λi hi hi'=>?_⟩;by_cases e:i=k
   ·subst e;exact he
   ·exact hall i (by omega) hi'
 ·have hn:=zB5 λi hi=>hall i (by omega) hi;simp+decide(disch:=omega)only[RL,↓reduceIte,l2,l3,hlt,moreT,neg1,hn]
end
def zH7(c:UInt8):Bool:=(decide (97<=c.toNat)&&decide (c.toNat<=122))||(decide (65<=c.toNat)&&decide (c.toNat<=90))||decide (c.toNat=95)
def isDigB(c:UInt8):Bool:=decide (48<=c.toNat)&&decide (c.toNat<=57)
def zJl(c:UInt8):Bool:=zH7 c||isDigB c
def aheadN(p:UInt8->Bool)(s:Str):Nat:=(s.takeWhile p).length
theorem zJ7{p:UInt8->Bool}:∀{s:Str} {k:Nat},(∀i,i<k->∃c,s[i]?=some c/\p c=true)->(∀c,s[k]?=some c->p c=false)->aheadN p s=k
 | [],0,_,_=>rfl
 | [],k+1,h,_=>by obtain⟨c,hc,_⟩:=h 0 (by omega);cases hc
 | c::s,0,_,h=>by unfold aheadN;rw[List.takeWhile_cons,h c rfl];rfl
 | c::s,k+1,h,h'=>by
  obtain⟨c',hc,hp⟩:=h 0 (by omega);cases hc;unfold aheadN;rw[List.takeWhile_cons,if_pos hp,q0P];congr 1;exact zJ7 (λi hi=>h (i+1) (by omega)) h'
def zHq:List Str:=[[116,121,112,101],[115,116,114,117,99,116],[102,117,110,99],[118,97,114],[105,102],[101,108,115,101],[102,111,114],[114,101,116,117,114,110],[112,114,105,110,116],[110,101,119],[110,105,108],[116,114,117,101],[102,97,108,115,101],[105,110,116],[98,111,111,108],[114,101,97,100]]
def zJk(s:Str):Bool:=match s with
 | []=>false
 | c::_=>zH7 c&&decide (aheadN zJl s=s.length)
def zB3(s:Str):Bool:=zJk s&&decide (s.length<=12)&&!decide (s∈zHq)
abbrev tInt:Str:=[105,110,116]
abbrev tBool:Str:=[98,111,111,108]
def starS(t:Str):Option Str:=match t with
 | 42::n=>some n
 | _=>none
def elemS(t:Str):Option Str:=(starS t).bind λn=>if zB3 n then some n else none
def findS(l:List zBa)(n:Str):Option Nat:=l.findIdx? λs=>decide (s.name=n)
def zBk(l:List zBa)(t:Str):Bool:=decide (t=tInt)||decide (t=tBool)||(match starS t with | some n=>l.any λs=>decide (s.name=n) | none=>false)
def fieldE(l:List zBa)(ahead:List FieldD)(f:FieldD):Nat:=if zB3 f.name then(if ahead.any λg=>decide (g.name=f.name) then 6 else if zBk l f.typ then 0 else 7) else 1
def rowE(e:Nat->Nat)(len:Nat):Nat->Nat
 | 0=>0
 | n+1=>if e (len-(n+1))=0 then rowE e len n else e (len-(n+1))
theorem rowE_step{e:Nat->Nat}{len k:Nat}(hk:k<len):rowE e len (len-k)=if e k=0 then rowE e len (len-(k+1)) else e k:=by
 obtain⟨n,hn⟩:∃n,len-k=n+1:=⟨len-k-1,by omega⟩;rw[hn,rowE,show len-(n+1)=k by omega,show len-(k+1)=n by omega]
def zL1(l:List zBa)(fs:List FieldD):Nat:=rowE (λk=>match fs[k]? with | some f=>fieldE l (fs.take k) f | none=>0) fs.length fs.length
def oneE(l:List zBa)(i:Nat):Nat:=match l[i]? with
 | some s=>if zB3 s.name then(if(findS l s.name).getD 0<i then 6 else if 8<s.fields.length then 4 else zL1 l s.fields) else 1
 | none=>0
def checkS(l:List zBa):Nat:=if 12<l.length then 4 else rowE (oneE l) l.length l.length
section
variable{tab:Nat->Option AFunc}{h:AH}(H:PV tab)
abbrev byteV(c:UInt8):AV:=.int .u8 (c.toNat:Int)
include H in
theorem letter_gp{c:UInt8}:GP tab 142 [byteV c] h λv h1=>v=.bool (zH7 c)/\h1=h:=by
 refine gpr H.t142 ?_;have i0:zAb [byteV c]=zAa [byteV c]:=rfl;unfold zH7
 by_cases h1:97<=c.toNat<;>by_cases h2:c.toNat<=122<;>by_cases h3:65<=c.toNat<;>by_cases h4:c.toNat<=90<;>by_cases h5:c.toNat=95 <;>
  simp+decide only[RL,↓reduceIte,i0,h1,h2,h3,h4,h5,Bool.and_true,q0N,Bool.or_true,Bool.or_false]
include H in
theorem digit_gp{c:UInt8}:GP tab 145 [byteV c] h λv h1=>v=.bool (isDigB c)/\h1=h:=by
 refine gpr H.t145 ?_;have i0:zAb [byteV c]=zAa [byteV c]:=rfl;unfold isDigB;by_cases h1:48<=c.toNat<;>by_cases h2:c.toNat<=57<;>simp only[RL,↓reduceIte,i0,h1,h2,Bool.and_true,q0N]
include H in
theorem name1_gp{c:UInt8}:GP tab 144 [byteV c] h λv h1=>v=.bool (zJl c)/\h1=h:=by
 refine gpr H.t144 ?_;have i0:zAb [byteV c]=zAa [byteV c]:=rfl;have e1:∀{R E:AV->AH->Prop},GE tab 142 [byteV c] h R E=R (.bool (zH7 c)) h:=ge_rw (letter_gp H);have e2:∀{R E:AV->AH->Prop},GE tab 145 [byteV c] h R E=R (.bool (isDigB c)) h:=ge_rw (digit_gp H);unfold zJl;cases h1:zH7 c<;>simp only[RL,↓reduceIte,i0,e1,e2,h1,Bool.true_or,Bool.false_or]
include H in
theorem run_gp{f:Nat}{p:UInt8->Bool}{s:Str}(hs:s.length<=maxLen)(hp:∀c,GP tab f [byteV c] h λv h1=>v=.bool (p c)/\h1=h):GP tab 143 [sv s,.fn f [] []] h λv h1=>v=.int .i64 (aheadN p s:Int)/\h1=h:=by
 have i0:zAb [sv s,.fn f [] []]=zAa [sv s,.fn f [] []]:=rfl;unfold maxLen at hs;refine gpr H.t143 ?_;simp(disch:=omega)only[RL,i0];refine zAc (λm l d1 h1=>∃k,m=s.length-k/\k<=s.length/\d1=[]/\h1=h/\l.get 0=some (sv s)/\l.get 1=some (.fn f [] [])/\l.get 2=some (.int .i64 (k:Int))/\∀i,i<k->∃c,s[i]?=some c/\p c=true) ?_ (s.length-0) ⟨0,rfl,q0k _,rfl,rfl,rfl,rfl,rfl,λi hi=>by omega⟩;rintro m l d1 h1 ⟨k,rfl,hk,rfl,rfl,l0,l1,l2,hall⟩;by_cases hlt:k<s.length
 ·have ix:∀h':AH,oIdxS (.c (sv s)) (.c (.int .i64 (k:Int))) .leaf [] h'=.val (byteV s[k]) h':=λh'=>idx_sv (q0a hlt);simp(disch:=omega)only[RL,↓reduceIte,l0,l1,l2,hlt,ix];rw[ge_rw (hp s[k])];cases hpk:p s[k] with
  | true=>
   simp+decide(disch:=omega)only[RL,↓reduceIte,l2];refine⟨s.length-(k+1),by omega,k+1,rfl,hlt,l0,l1,rfl,λi hi=>?_⟩;by_cases e:i=k
   ·subst e;exact⟨_,q0a hlt,hpk⟩
   ·exact hall i (by omega)
  | false=>
   have ha:=zJ7 hall λc hc=>by rw[q0a hlt] at hc;cases hc;exact hpk
   simp+decide(disch:=omega)only[RL,↓reduceIte,l2,ha]
 ·have ha:=zJ7 hall λc hc=>by rw[q0i (by omega)] at hc;cases hc
  simp+decide(disch:=omega)only[RL,↓reduceIte,l0,l1,l2,hlt,ha]
include H in
theorem name_gp{s:Str}(hs:s.length<=maxLen):GP tab 105 [sv s] h λv h1=>v=.bool (zJk s)/\h1=h:=by
 have i0:zAb [sv s]=zAa [sv s]:=rfl;refine gpr H.t105 ?_;cases s with
 | nil=>simp only[RL,↓reduceIte,i0];rfl
 | cons c s=>
  have ix:∀h':AH,oIdxS (.c (sv (c::s))) (.c (.int .i64 ((0:Nat):Int))) .leaf [] h'=.val (byteV c) h':=λh'=>idx_sv (i:=0) rfl;have e1:∀{R E:AV->AH->Prop},GE tab 142 [byteV c] h R E=R (.bool (zH7 c)) h:=ge_rw (letter_gp H);have e2:∀{R E:AV->AH->Prop},GE tab 143 [sv (c::s),.fn 144 [] []] h R E=R (.int .i64 (aheadN zJl (c::s):Int)) h:=ge_rw (run_gp H hs λc=>name1_gp H);have ne:¬c::s=[]:=by simp
  unfold zJk;cases h1:zH7 c<;>by_cases h2:aheadN zJl (c::s)=(c::s).length<;>simp only[RL,↓reduceIte,i0,e1,e2,h1,ix,ne,h2,q0E,q0D]
end
section
variable{tab:Nat->Option AFunc}{h:AH}(H:PV tab)
include H in
theorem indexS_gp{α:Type}{R:List AV->α->Prop}{v x:AV}{xs:List α}{p:α->Bool}(a:SlV h 1 R v xs)(mx:x.mv=true)(hq:∀E y,R E y->∃w,E=[w]/\∀h',oEq false .num (.c x) (.c w) .leaf [] h'=.val (.bool (p y)) h'):GP tab 159 [v,x] h λw h1=>w=.int .i64 (idxP xs p)/\h1=h:=by
 have i0:zAb [v,x]=zAa [v,x]:=rfl;have mv:=a.mv;have ln:=a.len;have hb:=a.bound;have mx:∀h',oMove (.c x) .leaf [] h'=.val x h':=λh'=>zAh mx;unfold maxLen at hb;refine gpr H.t159 ?_;simp+decide(disch:=omega)only[RL,↓reduceIte,i0,mv,ln];refine zAc (λm l d1 h1=>∃k,m=xs.length-k/\k<=xs.length/\d1=[]/\h1=h/\l.get 0=some v/\l.get 1=some x/\l.get 2=some (.int .i64 (k:Int))/\l.get 3=some (.int .i64 (xs.length:Int))/\∀i,i<k->(hi:i<xs.length)->p xs[i]=false) ?_ (xs.length-0) ⟨0,rfl,q0k _,rfl,rfl,rfl,rfl,rfl,rfl,λi hi=>by omega⟩;rintro m l d1 h1 ⟨k,rfl,hk,rfl,rfl,l0,l1,l2,l3,hall⟩;by_cases hlt:k<xs.length
 ·obtain⟨id,o,E,ix,e1,r,ld,lw⟩:=a.at hlt;obtain⟨w,rfl,eq⟩:=hq _ _ r;have lw0:∀h' [MoreC h1 h'],oLoad (.c (.ptr id o)) .leaf [] h'=.val w h':=lw 0 w rfl;cases he:p xs[k] with
  | true=>
   have hi:=zEf hlt hall he;simp+decide(disch:=omega)only[RL,↓reduceIte,l0,l1,l2,l3,hlt,mv,mx,ix,lw0,eq,he,hi]
  | false=>
   simp+decide(disch:=omega)only[RL,↓reduceIte,l0,l1,l2,l3,hlt,mv,mx,ix,lw0,eq,he];refine⟨xs.length-(k+1),by omega,k+1,rfl,hlt,rfl,λi hi hi'=>?_⟩;by_cases e:i=k
   ·subst e;exact he
   ·exact hall i (by omega) hi'
 ·have hn:=zB5 λi hi=>hall i (by omega) hi;simp+decide(disch:=omega)only[RL,↓reduceIte,l2,l3,hlt,neg1,hn]
def RS(E:List AV)(x:Str):Prop:=E=[sv x]
include H in
theorem containsS_gp{v:AV}{x:Str}{xs:List Str}(a:SlV h 1 RS v xs):GP tab 125 [v,sv x] h λw h1=>w=.bool (decide (x∈xs))/\h1=h:=by
 have i0:zAb [v,sv x]=zAa [v,sv x]:=rfl;have mv:=a.mv;refine gpr H.t125 ?_;have e1:∀{R E:AV->AH->Prop},GE tab 159 [v,sv x] h R E=R (.int .i64 (idxP xs λy=>decide (x=y))) h:=ge_rw (indexS_gp H a rfl λE y hr=>⟨_,hr,λh'=>by simp only[RL,↓reduceIte]⟩);have e2:decide (x∈xs)=decide (((0:Nat):Int)<=idxP xs λy=>decide (x=y)):=by
  rw[show((0:Nat):Int)=0 from rfl,zJm];by_cases hx:x∈xs
  ·simp[hx]
  ·simp only[hx,decide_false];symm;rw[List.any_eq_false];intro y hy;simp;rintro rfl;exact hx hy
 simp only[RL,↓reduceIte,i0,mv,e1,e2]
include H in
theorem keys_gp:GP tab 146 [] h λv h1=>More h h1/\SlV h1 1 RS v zHq:=by
 refine gpr H.t146 ?_;have i0:zAb []=.leaf:=rfl;simp+decide only[RL,↓reduceIte,i0];refine⟨q2g _ _,.inr ⟨_,_,_,_,_,_,_,rfl,q0c _,by rw[q2a];exact q1b _ _ _,q0h _,by decide,λi hi=>⟨[sv zHq[i]],rfl,rfl,?_⟩⟩⟩;have hi:i<16:=hi;rcases i with _ | _ | _ | _ | _ | _ | _ | _ | _ | _ | _ | _ | _ | _ | _ | _ | i
 all_goals first | (exfalso;omega) | rfl
include H in
theorem isKey_gp{s:Str}:GP tab 106 [sv s] h λv h1=>v=.bool (decide (s∈zHq))/\More h h1:=by
 have i0:zAb [sv s]=zAa [sv s]:=rfl;refine gpr H.t106 ?_;simp only[RL,i0];refine(keys_gp H).to λv h1 q=>?_;obtain⟨m1,a⟩:=q;have mv:=a.mv;have e1:∀{R E:AV->AH->Prop},GE tab 125 [v,sv s] h1 R E=R (.bool (decide (s∈zHq))) h1:=ge_rw (containsS_gp H a);simp only[RL,↓reduceIte,e1];exact m1
include H in
theorem zFq{s:Str}(hs:s.length<=maxLen):GP tab 65 [sv s] h λv h1=>v=.bool (zB3 s)/\More h h1:=by
 have i0:zAb [sv s]=zAa [sv s]:=rfl;refine gpr H.t65 ?_;have e1:∀{R E:AV->AH->Prop},GE tab 105 [sv s] h R E=R (.bool (zJk s)) h:=ge_rw (name_gp H hs);have e2:∀{R E:AV->AH->Prop},GE tab 106 [sv s] h R E=R (.bool (decide (s∈zHq))) (nh tab 106 [sv s] h):=ge_nh (isKey_gp H);unfold zB3;cases h1:zJk s<;>by_cases h2:s.length<=12<;>simp only[RL,↓reduceIte,i0,e1,e2,h1,h2,moreT,q0E,q0D,q0N]
 all_goals trace_state
end
end Go.Ev
