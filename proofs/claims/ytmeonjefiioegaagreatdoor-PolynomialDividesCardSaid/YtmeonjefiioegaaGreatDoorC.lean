/- Helpers for the statements: each function keeps its contract. Condition: none. -/
import Derived.Test.YtmeonjefiioegaaGreatDoorProg
import Derived.Test.YtmeonjefiioegaaGreatDoorB2
section
namespace Go.Proofs
open Go.Shelf Go.RowKit
set_option maxHeartbeats 1000000 in
set_option maxRecDepth 100000 in
theorem Tryz.ZA (b:Nat)(w:World)(bc:w.cell? ⟨b,0,none⟩=some (.pointer (some ⟨b,0,none⟩))):
 Calls Tryz.prog 150 #[.pointer (some ⟨b,0,none⟩)] w fun e w'=>e= .returned (.tuple #[])/\w'=w:=by
 obtain⟨j,aK,_⟩:=Option.map_eq_some_iff.1 (show(Tryz.prog.info? 114).map (·.size)=some 2 by kernel_rfl)
 go_enter Tryz.func150,Tryz.ntmps150
 go_wp2
 rw[Lib.run_neq_ptr_same w _ Tryz.underlying111 aK]
 go_wp2
 go_end0
 exact⟨rfl,rfl⟩
set_option maxHeartbeats 1000000 in
set_option maxRecDepth 100000 in
theorem Tryz.Ym (b:Nat)(w:World)(bc:w.cell? ⟨b,0,none⟩=some (.pointer none))(Us:w.shape? b=some (114,2))(en:w.frozen? ⟨b,0,none⟩=false):
 Calls Tryz.prog 150 #[.pointer (some ⟨b,0,none⟩)] w fun e w'=>e= .returned (.tuple #[])/\w'=w.setCell ⟨b,0,none⟩ (.pointer (some ⟨b,0,none⟩)):=by
 obtain⟨j,aK,akX⟩:=Option.map_eq_some_iff.1 (show(Tryz.prog.info? 114).map (·.size)=some 2 by kernel_rfl)
 go_enter Tryz.func150,Tryz.ntmps150
 go_wp2
 rw[Lib.run_to_unsafe w ⟨b,0,none⟩ Tryz.underlying111 Tryz.underlying181 aK (by rw[akX];decide) Us (Nat.zero_lt_succ 1)];simp only[Result.andThen];rw[Oper.upon_value]
 go_wp2
 rw[run_callFunc_extern Tryz.func188 (by kernel_rfl) (by kernel_rfl) (by kernel_rfl) (e:=Extern.AbiNoEscape.same) (by kernel_rfl)];rw[Lib.run_noEscape];simp only[Result.andThen];rw[Oper.upon_value]
 go_wp2
 rw[Lib.run_from_unsafe w ⟨b,0,none⟩ Tryz.underlying181 Tryz.underlying111 aK Us (by kernel_rfl)];simp only[Result.andThen];rw[Oper.upon_value]
 go_wp2
 go_end0
 exact⟨rfl,rfl⟩
set_option maxHeartbeats 2000000 in
set_option maxRecDepth 100000 in
theorem Tryz.acW (b:Nat)(fy:List Value)(s:ByteArray)(w:World)(N:Nat->Prop)(h:lE 114 5 b fy w N)(hlen:fy.length+s.size<=140737488355328):
 Calls Tryz.prog 109 #[.pointer (some ⟨b,0,none⟩), .string s] w fun r w'=>r= .returned (.tuple #[.int .i64 s.size, .nilIface])/\lE 114 5 b (fy++Lib.strCells s) w' (fun x=>N x\/w.heap.size<=x)/\j7 N w w':=by
 obtain⟨p,v,aD,eY,hy,ah,fk,cT⟩:=h;obtain⟨i0,hi,Aq,JN,na⟩:=info_parts (show(Tryz.prog.info? 5).map (fun i=>(i.zero,i.size,i.bytes))=some (some (.int .u8 0),1,1) by kernel_rfl)
 go_enter Tryz.func109,Tryz.ntmps109
 go_wp2_with (go_at_call 150;refine(ack Tryz.ZA Tryz.Ym aD ah fk cT).mono ?_)
 rintro r w1 ⟨rfl,tq,Sh,lU⟩;have tT:w1.cell? ⟨b,0,none⟩=some (.pointer (some ⟨b,0,none⟩)):=by rw[Lib.cell_of_heap tq];rfl
 have fi:w1.cell? ⟨b,1,none⟩=some v:=by rw[Lib.cell_of_heap tq];rfl
 go_wp2_with (at_builtin;refine aaQ rfl _ _ 112 9 rfl 5 i0 Tryz.underlying112 Tryz.underlying9 hi Aq JN na _ _ _ rfl Sh s rfl hlen ?_)
 intro c7 dq II uS aeI;have bG:b<w1.heap.size:=(aqS.1 tq).1
 have et:dq.heap[b]? =some (.cells #[.pointer (some ⟨b,0,none⟩),v] 114 (0,0)):=by
  rw[uS.block b bG (fun e=>cT e.symm)];exact tq
 have d0:dq.cell? ⟨b,0,none⟩=some (.pointer (some ⟨b,0,none⟩)):=by rw[Lib.cell_of_heap et];rfl
 have d1:dq.cell? ⟨b,1,none⟩=some v:=by rw[Lib.cell_of_heap et];rfl
 have f1:dq.frozen? ⟨b,1,none⟩=false:=Lib.frozen_of_heap et 1;have S8:c7.ownBlock≠some b:=Lib.ownBlock_ne II et (by decide)
 obtain⟨Gk,n',cap,rfl⟩:∃Gk n' cap,c7= .slice Gk n' cap:=by
  rcases II.2 with⟨aM,_⟩|⟨g,cap,cur,aM,_⟩
  ·exact⟨_,_,_,aM⟩
  ·exact⟨_,_,_,aM⟩
 go_wp2
 go_ret2
 have tf:dq.grownBy (dq.setCell ⟨b,1,none⟩ (.slice Gk n' cap)) (some b):=by
  refine⟨rfl,rfl,rfl,by simp[World.setCell],fun k _ ae=> ?_⟩;have:b≠k:=fun e=>ae (by rw[e]);simp[World.setCell,aqE,this]
 refine⟨rfl,⟨.pointer (some ⟨b,0,none⟩), .slice Gk n' cap, .inr rfl, .inl eY,fun g bg=> ?_,by simp[World.setCell,aqE,et], ?_,S8⟩, ?_⟩
 ·rcases aeI g bg with bg|bg
  ·exact .inl (hy g bg)
  ·exact .inr (aoV lU.size bg)
 ·rw[ao1,Lib.strCells_length];exact II.kept tf (.inr S8)
 ·refine⟨tf.os.trans (uS.os.trans lU.os),tf.tape.trans (uS.tape.trans lU.tape),tf.output.trans (uS.output.trans lU.output),aoV lU.size (aoV uS.size tf.size),fun k ae hn=> ?_⟩;have aa:some k≠some b:=fun e=>hn (by cases e;exact eY);have ad:some k≠v.ownBlock:=fun e=>hn (hy k e.symm);rw[tf.block k (aoZ ae (aoV lU.size uS.size)) aa,uS.block k (aoZ ae lU.size) ad,lU.block k ae aa]
set_option maxHeartbeats 1000000 in
set_option maxRecDepth 100000 in
theorem Tryz.abd (b:Nat)(l:List UInt8)(w:World)(N:Nat->Prop)(h:lE 114 5 b (Lib.byteCells l) w N)(bc:l≠[]):
 Calls Tryz.prog 114 #[.pointer (some ⟨b,0,none⟩)] w fun r w'=>r= .returned (.string ⟨l.toArray⟩)/\j7 N w w':=by
 obtain⟨p,v,aD,eY,hy,tq,fk,cT⟩:=h;have ph:l.length≠0:=by simpa using bc
 rw[Lib.byteCells_length]at fk
 obtain⟨g,cap,cur,rfl,bg,p_,po,j3⟩:∃g cap cur,v= .slice (some ⟨g,0,none⟩) l.length cap/\w.heap[g]? =some (.cells cur 5 (0,0))/\l.length<=cap/\cap<=maxLen/\cur.size=cap*1:=by
  rcases fk.2 with⟨_,bm⟩|⟨g,cap,cur,aM,_,dG,dD,ei,lf,_⟩
  ·exact absurd bm ph
  ·exact⟨g,cap,cur,aM,dG,dD,ei,lf⟩
 have qk:w.drew.heap[b]? =some (.cells #[p, .slice (some ⟨g,0,none⟩) l.length cap] 114 (0,0)):=tq;have pb:w.drew.heap[g]? =some (.cells cur 5 (0,0)):=bg;have fi:w.drew.cell? ⟨b,1,none⟩=some (.slice (some ⟨g,0,none⟩) l.length cap):=by rw[Lib.cell_of_heap qk];rfl
 have aoj:(Builtin.unsafeSliceData_ #[112] 160 #[.slice (some ⟨g,0,none⟩) l.length cap]).run Tryz.prog w.drew= .ok (.pointer (some ⟨g,0,none⟩)) w.drew:=
  Lib.run_unsafeSliceData_row _ _ _ _ _ _ (by omega)
 have aok:(Builtin.unsafeString_ #[160,3] 9 #[.pointer (some ⟨g,0,none⟩), .int .i64 l.length]).run Tryz.prog w.drew= .ok (.string ⟨l.toArray⟩) (w.drew.freeze ⟨g,0,none⟩ l.length):=by
  refine Lib.run_unsafeString_row w.drew 160 3 9 5 Tryz.underlying160 (by kernel_rfl) g cur.size (by simp[World.shape?,pb]) l bc (by omega) (by unfold maxLen at po;omega) fun j x ak=> ?_;exact fk.cells (g:=g) rfl j (.int .u8 x.toNat) (by simp[Lib.byteCells,ak])
 have cH:j7 N w (w.drew.freeze ⟨g,0,none⟩ l.length):=by
  unfold World.freeze
  have akY:∀k,¬N k->g≠k:=fun k ae e=>ae (e▸hy g rfl)
  split
  ·exact⟨rfl,rfl,rfl,aoH _,fun _ _ _=>rfl⟩
  ·refine⟨rfl,rfl,rfl,by simp,fun k ae hn=> ?_⟩;simp[aqE,akY k hn];rfl
 have mixed:Tryz.prog.follows .mixedOrders=true:=by kernel_rfl
 go_enter Tryz.func114,Tryz.ntmps114
 go_wp2
 go_region_o
 all_goals (go_wp2;go_ret;exact⟨rfl,cH⟩)
theorem Tryz.builder (E:aj.bD)(β fuel:Nat):aj.zW Tryz.prog ⟨E,β,114,5,109,114,fuel⟩where
 write:=Tryz.acW
 read:=Tryz.abd
 zero:=Tryz.zeroValue114
 T5:=⟨_,Tryz.func109,rfl,by kernel_rfl⟩
 T6:=⟨_,Tryz.func114,rfl,by kernel_rfl⟩
end Go.Proofs
end
open Go Go.aj
set_option maxRecDepth 1000000
namespace Go.Proofs.YtmeonjefiioegaaGreatDoor.S
noncomputable abbrev P:Program:=Go.Proofs.Tryz.prog
def b3:List (Nat×b4):=[(1,{ty:= .aE (.other)}),
(2,{ty:= .aE (.int .i64)}),
(3,{ty:= .aE (.int .i64)}),
(4,{ty:= .aE (.bool)}),
(5,{ty:= .aE (.int .u8)}),
(9,{ty:= .aE (.str)}),
(12,{ty:= .aE (.int .u64)}),
(22,{ty:= .aE (.cv .i64),elem:=3,bytes:=8,f_:=[.int .i64],lit:=true}),
(23,{ty:= .aE (.other)}),
(25,{ty:= .aE (.ee 11),elem:=41,bytes:=120,f_:=[.int .i64, .int .i64, .int .i64, .int .i64, .int .i64, .int .i64, .int .i64, .int .i64, .bool, .cv .u32, .cv .u32],lit:=true}),
(26,{ty:= .aE (.ee 11),elem:=41,bytes:=120,f_:=[.int .i64, .int .i64, .int .i64, .int .i64, .int .i64, .int .i64, .int .i64, .int .i64, .bool, .cv .u32, .cv .u32],lit:=true}),
(28,{ty:= .aE (.int .i64)}),
(36,{ty:= .arr 8 (.aE (.int .i64)) [.int .i64, .int .i64, .int .i64, .int .i64, .int .i64, .int .i64, .int .i64, .int .i64]}),
(37,{ty:= .aE (.cv .u32),elem:=84,bytes:=4,f_:=[.int .u32],lit:=true}),
(39,{ty:= .struct [(0,1, .aE (.bool)),(1,1, .aE (.cv .u32)),(2,1, .aE (.cv .u32))] [.bool, .cv .u32, .cv .u32]}),
(41,{ty:= .struct [(0,8, .arr 8 (.aE (.int .i64)) [.int .i64, .int .i64, .int .i64, .int .i64, .int .i64, .int .i64, .int .i64, .int .i64]),(8,3, .struct [(0,1, .aE (.bool)),(1,1, .aE (.cv .u32)),(2,1, .aE (.cv .u32))] [.bool, .cv .u32, .cv .u32])] [.int .i64, .int .i64, .int .i64, .int .i64, .int .i64, .int .i64, .int .i64, .int .i64, .bool, .cv .u32, .cv .u32]}),
(54,{ty:= .aE (.other)}),
(75,{ty:= .struct [(0,1, .aE (.cv .i64)),(1,1, .aE (.int .i64)),(2,1, .aE (.int .i64))] [.cv .i64, .int .i64, .int .i64]}),
(81,{ty:= .aE (.ee 1),elem:=9,bytes:=16,f_:=[.str],lit:=true}),
(84,{ty:= .aE (.int .u32)}),
(101,{ty:= .aE (.other),mp:=some (8,36,39)}),
(102,{ty:= .aE (.ee 8),elem:=36,bytes:=64,f_:=[.int .i64, .int .i64, .int .i64, .int .i64, .int .i64, .int .i64, .int .i64, .int .i64],lit:=true}),
(106,{ty:= .aE (.other)}),
(108,{ty:= .struct [(0,1, .aE (.bool))] [.bool]}),
(112,{ty:= .aE (.cv .u8),elem:=5,bytes:=1,f_:=[.int .u8],lit:=true}),
(114,{ty:= .struct [(0,1, .aE (.other)),(1,1, .aE (.cv .u8))] [.other, .cv .u8]}),
(124,{ty:= .aE (.int .u64)}),
(125,{ty:= .aE (.int .u64)}),
(129,{ty:= .struct [(0,1, .aE (.bool))] [.bool]}),
(131,{ty:= .struct [(0,1, .aE (.cv .u32)),(1,1, .aE (.cv .u32))] [.cv .u32, .cv .u32]}),
(133,{ty:= .struct [(0,1, .struct [(0,1, .aE (.bool))] [.bool]),(1,2, .struct [(0,1, .aE (.cv .u32)),(1,1, .aE (.cv .u32))] [.cv .u32, .cv .u32])] [.bool, .cv .u32, .cv .u32]}),
(152,{ty:= .aE (.other),mp:=some (8,36,3)}),
(155,{ty:= .aE (.other)}),
(157,{ty:= .struct [(0,1, .aE (.int .i64))] [.int .i64]}),
(172,{ty:= .aE (.int .i64)}),
(189,{ty:= .aE (.int .u64)}),
(193,{ty:= .aE (.other)}),
(196,{ty:= .arr 24 (.aE (.int .u8)) [.int .u8, .int .u8, .int .u8, .int .u8, .int .u8, .int .u8, .int .u8, .int .u8, .int .u8, .int .u8, .int .u8, .int .u8, .int .u8, .int .u8, .int .u8, .int .u8, .int .u8, .int .u8, .int .u8, .int .u8, .int .u8, .int .u8, .int .u8, .int .u8]}),
(202,{ty:= .aE (.other)})]
theorem l8:Ss P b3=true:=by kernel_rfl
theorem px:P.follows .mixedOrders=true:=by kernel_rfl
theorem bZ {L:r1 P}{h m:List (Nat×Head)}(aV:w8 (rv L)=true:=by kernel_rfl):hG P (b2 b3 L h m):=DL l8 aV px
noncomputable def akZ:bD:=b2 (P:=P) b3 [] [] []
theorem ak0:v8 P 11 [.aE (.cv .i64)] ab.Du.T:=akV akZ bZ Go.Proofs.Tryz.f11 2 (yO _) (Go.aj.JJ ab.aaM fun l K bh=>cJ (by kernel_rfl) (ab.ach l K bh))
noncomputable def ak1:bD:=b2 (P:=P) b3 [] [] []
theorem ak2:hf P 99 [] ab.Dv.T:=ig ak1 bZ Go.Proofs.Tryz.f99 [.tmp 2] [Go.aj.b0] (hh _) (Go.aj.k0 ab.aaN fun l a s K bh=>h8 (by kernel_rfl) (ab.V_ l a s K bh))
noncomputable def ak3:bD:=b2 (P:=P) b3 [⟨_,ak2.d⟩] [] []
theorem AO:hf P 52 [Go.aj.b0] ab.EF.T:=ig ak3 bZ Go.Proofs.Tryz.f52 [.tmp 4] [Go.aj.b0] (hh _) (Go.aj.nb ab.adJ fun l a s n K bh=>h8 (by kernel_rfl) (ab.WO l a s n K bh))
noncomputable def ak4:bD:=b2 (P:=P) b3 [⟨_,AO.d⟩] [] []
theorem Ut:hf P 43 [Go.aj.b0,Go.aj.b0] ab.Cg.T:=ig ak4 bZ Go.Proofs.Tryz.f43 [.tmp 6] [Go.aj.b0] (hh _) (Go.aj.Fo ab.Yc fun l a s x y K bh=>h8 (by kernel_rfl) (ab.VV l a s x y K bh))
noncomputable def agR:bD:=b2 (P:=P) b3 [] [(0,{bO:=[(0, .ar),(3, .aE (.int .i64))]})] []
theorem qh:qI P 115 [Go.aj.dm] ab.Cb.T:=FI agR bZ Go.Proofs.Tryz.f115 2 Go.aj.dm (yO _) (Go.aj.JJ ab.X3 fun a K bh=>cJ (by kernel_rfl) (ab.Y0 a K bh))
noncomputable def ak5:bD:=b2 (P:=P) b3 [⟨_,qh.d⟩] [] []
theorem ak6:cC P 61 [Go.aj.b0] ab.BF.T:=cU ak5 bZ Go.Proofs.Tryz.f61 [.tmp 2, .tmp 3] [Go.aj.dm,Go.aj.b0] (cE _) (Go.aj.gC ab.Wp fun n K bh=>cJ (by kernel_rfl) (ab.WW n K bh))
noncomputable def ak7:bD:=b2 (P:=P) b3 [⟨_,qh.d⟩] [(0,{bO:=[(0, .ar),(1, .ar),(5, .ar),(6, .aE (.int .u64)),(7, .aE (.int .i64))],I:=[.af .u32]})] [(24,{bO:=[(0, .ar),(1, .ar),(5, .ar),(6, .aE (.int .u64)),(7, .ar)],I:=[.ar]}),(35,{bO:=[(0, .ar),(1, .ar),(5, .ar),(6, .aE (.int .u64)),(7, .ar)],I:=[.ar]})]
theorem Uu:cC P 62 [Go.aj.dm,Go.aj.dm] ab.CN.T:=cU ak7 bZ Go.Proofs.Tryz.f62 [.tmp 4] [Go.aj.dm] (cE _) (Go.aj.fD ab.YT fun a b K bh=>cJ (by kernel_rfl) (ab.aaD a b K bh))
noncomputable def ak8:bD:=b2 (P:=P) b3 [⟨_,ak6.n⟩,⟨_,Uu.n⟩] [] []
theorem ak9:cC P 19 [Go.aj.b0] ab.s0.T:=cU ak8 bZ Go.Proofs.Tryz.f19 [.cell 2 39] [Go.aj.fe] (cE _) (Go.aj.gC ab.Qk fun n K bh=>cJ (by kernel_rfl) (ab.adG n K bh))
noncomputable def agS:bD:=b2 (P:=P) b3 [⟨_,qh.d⟩] [(0,{bO:=[(0, .ar),(1, .ar),(5, .aE (.int .i64))],I:=[.ar, .ar]})] []
theorem S9:cC P 127 [Go.aj.dm,Go.aj.dm] ab.CM.T:=cU agS bZ Go.Proofs.Tryz.f127 [.tmp 4] [Go.aj.b0] (cE _) (Go.aj.fD ab.YS fun a b K bh=>cJ (by kernel_rfl) (ab.aaC a b K bh))
noncomputable def agT:bD:=b2 (P:=P) b3 [⟨_,qh.d⟩] [(0,{bO:=[(0, .ar),(1, .ar),(6, .ar),(7, .aE (.int .u64)),(8, .aE (.int .i64))],I:=[.af .u32]})] []
theorem agU:cC P 159 [Go.aj.dm, .aE (.int .u32)] ab.BV.T:=cU agT bZ Go.Proofs.Tryz.f159 [.tmp 4, .tmp 5] [Go.aj.dm, .aE (.int .u32)] (cE _) (Go.aj.fD ab.Xo fun a d K bh=>cJ (by kernel_rfl) (ab.X5 a d K bh))
noncomputable def agV:bD:=b2 (P:=P) b3 [] [(0,{bO:=[(0, .ar),(1, .ar),(5, .ar),(6, .aE (.int .u64)),(7, .aE (.int .i64))],I:=[.af .u32]})] []
theorem agW:qI P 160 [Go.aj.dm,Go.aj.b0] ab.BW.T:=FI agV bZ Go.Proofs.Tryz.f160 4 Go.aj.dm (yO _) (Go.aj.TN ab.Xp fun a k K bh=>cJ (by kernel_rfl) (ab.Ye a k K bh))
noncomputable def agX:bD:=b2 (P:=P) b3 [] [(0,{bO:=[(0, .ar),(1, .ar),(2, .ar),(7, .ar),(9, .aE (.int .u64)),(10, .aE (.int .u64))],I:=[.ar]}),(2,{bO:=[(0, .ar),(1, .ar),(2, .ar),(7, .ar),(9, .ar),(11, .aE (.int .u64)),(12, .aE (.int .u64)),(13, .aE (.int .i64))],I:=[.af .u32]}),(4,{bO:=[(0, .ar),(1, .ar),(2, .ar),(7, .ar),(9, .ar),(12, .aE (.int .u64)),(17, .aE (.int .i64))],I:=[.af .u32]})] [(100000,{bO:=[(0, .ar),(1, .ar),(2, .ar),(7, .ar),(9, .aE (.int .u64))],I:=[.ar]}),(102,{bO:=[(0, .ar),(1, .ar),(2, .ar),(7, .ar),(9, .ar),(11, .ar),(13, .ar),(14, .aE (.int .u64))],I:=[.ar]}),(127,{bO:=[(0, .ar),(1, .ar),(2, .ar),(7, .ar),(9, .ar),(11, .aE (.int .u64)),(12, .ar),(13, .ar),(15, .ar),(16, .aE (.int .u64))],I:=[.ar]}),(159,{bO:=[(0, .ar),(1, .ar),(2, .ar),(7, .ar),(9, .ar),(17, .ar),(18, .aE (.int .u64))],I:=[.ar]})]
theorem agY:hf P 161 [Go.aj.dm,Go.aj.b0] ab.BX.T:=ig agX bZ Go.Proofs.Tryz.f161 [.tmp 6] [.aE (.int .u32)] (hh _) (Go.aj.k0 ab.Xq fun u v j K bh=>h8 (by kernel_rfl) (ab.X6 u v j K bh))
noncomputable def agZ:bD:=b2 (P:=P) b3 [⟨_,qh.d⟩] [(0,{bO:=[(0, .ar),(1, .ar),(5, .ar),(6, .aE (.int .i64))],I:=[.af .u32]})] [(26,{bO:=[(0, .ar),(1, .ar),(5, .ar),(6, .ar),(7, .aE (.int .u64))],I:=[.ar]})]
theorem ag0:cC P 162 [Go.aj.dm,Go.aj.b0] ab.BG.T:=cU agZ bZ Go.Proofs.Tryz.f162 [.tmp 4] [Go.aj.dm] (cE _) (Go.aj.fD ab.Wq fun a k K bh=>cJ (by kernel_rfl) (ab.WX a k K bh))
noncomputable def ag1:bD:=b2 (P:=P) b3 [⟨_,qh.n⟩,⟨_,S9.n⟩,⟨_,agU.n⟩,⟨_,agW.n⟩,⟨_,agY.d⟩,⟨_,ag0.n⟩] [(0,{bO:=[(0, .ar),(1, .ar),(9, .aE (.int .i64))],I:=[.ar, .ar]}),(2,{bO:=[(9, .ar),(10, .ar),(11, .aE (.cv .u32)),(12, .ar),(13, .aE (.int .i64))],I:=[.ar, .ar, .af .u32, .ar, .ar, .af .u32],conv:=[(11, .other)]})] []
theorem S_:cC P 126 [Go.aj.dm,Go.aj.dm] ab.BK.T:=cU ag1 bZ Go.Proofs.Tryz.f126 [.tmp 4, .tmp 5, .tmp 6] [Go.aj.dm,Go.aj.dm,Go.aj.b0] (cE _) (Go.aj.fD ab.WK fun a b K bh=>cJ (by kernel_rfl) (ab.WM a b K bh))
noncomputable def ag2:bD:=b2 (P:=P) b3 [⟨_,qh.n⟩,⟨_,S_.n⟩] [(0,{bO:=[(0, .aE (.cv .u32)),(1, .aE (.cv .u32))],I:=[.ar, .ar],conv:=[(0, .other),(1, .other)]})] []
theorem ag3:cC P 125 [Go.aj.dm,Go.aj.dm] ab.CQ.T:=cU ag2 bZ Go.Proofs.Tryz.f125 [.tmp 4] [Go.aj.dm] (cE _) (Go.aj.fD ab.YW fun a b K bh=>cJ (by kernel_rfl) (ab.Y6 a b K bh))
noncomputable def ak_:bD:=b2 (P:=P) b3 [⟨_,ag3.n⟩,⟨_,S_.n⟩] [] []
theorem Kh:cC P 76 [Go.aj.h5,Go.aj.dm,Go.aj.dm] ab.CU.T:=cU ak_ bZ Go.Proofs.Tryz.f76 [.cell 6 39] [Go.aj.fe] (cE _) (Go.aj.kZ ab.Zq fun s a b K bh=>cJ (by kernel_rfl) (ab.Zc s a b K bh))
noncomputable def ala:bD:=b2 (P:=P) b3 [⟨_,ak9.n⟩,⟨_,Kh.n⟩] [] []
theorem alb:cC P 89 [Go.aj.b0,Go.aj.b0] ab.DY.T:=cU ala bZ Go.Proofs.Tryz.f89 [.cell 4 39, .tmp 5] [Go.aj.fe,Go.aj.b0] (cE _) (Go.aj.fD ab.acv fun n d K bh=>cJ (by kernel_rfl) (ab.adH n d K bh))
noncomputable def alc:bD:=b2 (P:=P) b3 [⟨_,Ut.n⟩,⟨_,alb.n⟩] [] []
theorem Uv:hf P 44 [] ab.Dy.T:=ig alc bZ Go.Proofs.Tryz.f44 [.cell 2 39] [Go.aj.fe] (hh _) (Go.aj.k0 ab.aa3 fun l a s K bh=>h8 (by kernel_rfl) (ab.Wa l a s K bh))
noncomputable def ald:bD:=b2 (P:=P) b3 [⟨_,AO.d⟩] [] []
theorem Uw:hf P 45 [.aE (.cv .i64)] ab.CR.T:=ig ald bZ Go.Proofs.Tryz.f45 [.tmp 4] [Go.aj.b0] (hh _) (Go.aj.nb ab.Zd fun l a s m K bh=>h8 (by kernel_rfl) (ab.V5 l a s m K bh))
noncomputable def ale:bD:=b2 (P:=P) b3 [⟨_,Uw.d⟩,⟨_,AO.d⟩] [(0,{bO:=[(0, .ar),(3, .ar),(4, .aE (.int .i64))],I:=[.cells [.cv .i64, .int .i64, .int .i64], .af .u32],conv:=[(3, .cv .u32)]})] []
theorem alf:hf P 90 [] ab.Cc.T:=ig ale bZ Go.Proofs.Tryz.f90 [.tmp 2] [Go.aj.dm] (hh _) (Go.aj.k0 ab.X8 fun l a s K bh=>h8 (by kernel_rfl) (ab.VU l a s K bh))
noncomputable def alg:bD:=b2 (P:=P) b3 [⟨_,Ut.n⟩,⟨_,Uv.n⟩,⟨_,AO.n⟩,⟨_,alf.n⟩] [] []
theorem alh:hf P 46 [] ab.Ch.T:=ig alg bZ Go.Proofs.Tryz.f46 [.cell 2 39] [Go.aj.fe] (hh _) (Go.aj.k0 ab.Yd fun l a s K bh=>h8 (by kernel_rfl) (ab.VW l a s K bh))
noncomputable def ali:bD:=b2 (P:=P) b3 [⟨_,Uv.n⟩,⟨_,Uw.n⟩,⟨_,alh.n⟩,⟨_,AO.n⟩] [(0,{bO:=[(0, .ar),(1, .ar),(7, .ar),(8, .aE (.int .i64))],I:=[.cells [.cv .i64, .int .i64, .int .i64], .av 11],conv:=[(7, .ee 11)]}),(2,{bO:=[(0, .ar),(1, .ar),(7, .ar),(8, .ar),(9, .ar),(10, .aE (.int .i64))],I:=[.cells [.cv .i64, .int .i64, .int .i64], .av 11, .av 11]})] [(24,{bO:=[(0, .ar),(1, .ar),(7, .ar),(8, .ar),(9, .ar)],I:=[.cells [.cv .i64, .int .i64, .int .i64], .av 11, .av 11]})]
theorem alj:hf P 12 [Go.aj.b0,Go.aj.b0] ab.C0.T:=ig ali bZ Go.Proofs.Tryz.f12 [.tmp 6] [Go.aj.du] (hh _) (Go.aj.Fo ab.Zv fun l a s v n K bh=>h8 (by kernel_rfl) (ab.V6 l a s v n K bh))
noncomputable def alk:bD:=b2 (P:=P) b3 [] [(0,{bO:=[(7, .ar),(8, .ar),(9, .aE (.int .i64))]}),(2,{bO:=[(7, .ar),(8, .ar),(9, .ar),(14, .ar),(15, .aE (.int .i64))],I:=[.ar]})] []
theorem AP:cC P 53 [Go.aj.du] ab.w7.T:=cU alk bZ Go.Proofs.Tryz.f53 [.tmp 2] [Go.aj.h5] (cE _) (Go.aj.gC ab.aa9 fun p K bh=>cJ (by kernel_rfl) (ab.VR p K bh))
noncomputable def ag4:bD:=b2 (P:=P) b3 [] [] []
theorem xv:cC P 118 [Go.aj.fe] ab.EI.T:=cU ag4 bZ Go.Proofs.Tryz.f118 [.cell 2 39] [Go.aj.fe] (cE _) (Go.aj.kZ ab.ad2 fun s a b K bh=>cJ (by kernel_rfl) (ab.VT s a b K bh))
noncomputable def ag5:bD:=b2 (P:=P) b3 [] [(0,{bO:=[(0, .aE (.cv .u32))]})] []
theorem qi:cC P 173 [Go.aj.dm] ab.DU.T:=cU ag5 bZ Go.Proofs.Tryz.f173 [.tmp 2] [Go.aj.dm] (cE _) (Go.aj.gC ab.abI fun a K bh=>cJ (by kernel_rfl) (ab.adm a K bh))
noncomputable def ag6:bD:=b2 (P:=P) ((37,{ty:= .aE (.cv .u32),elem:=84,bytes:=4,f_:=[.int .u32]})::b3) [] [] []
theorem Ta:cC P 194 [Go.aj.dm] ab.Dq.T:=cU ag6 (DL (by kernel_rfl) (by kernel_rfl) px) Go.Proofs.Tryz.f194 [.tmp 2] [Go.aj.dm] (cE _) (Go.aj.gC ab.aap fun a K bh=>cJ (by kernel_rfl) (ab.YX a K bh))
noncomputable def ag7:bD:=b2 (P:=P) b3 [⟨_,qi.d⟩,⟨_,Ta.d⟩] [] []
theorem Jc:cC P 155 [Go.aj.dm] ab.DV.T:=cU ag7 bZ Go.Proofs.Tryz.f155 [.tmp 2] [Go.aj.dm] (cE _) (Go.aj.gC ab.abJ fun a K bh=>cJ (by kernel_rfl) (ab.adn a K bh))
noncomputable def ag8:bD:=b2 (P:=P) b3 [⟨_,qi.d⟩] [(0,{bO:=[(0, .ar),(1, .ar),(5, .aE (.int .i64))]})] []
theorem E1:cC P 171 [Go.aj.dm,Go.aj.dm] ab.EB.T:=cU ag8 bZ Go.Proofs.Tryz.f171 [.tmp 4] [Go.aj.b0] (cE _) (Go.aj.fD ab.adh fun a b K bh=>cJ (by kernel_rfl) (ab.aeo a b K bh))
noncomputable def ag9:bD:=b2 (P:=P) b3 [] [] [(15,{bO:=[(0, .ar),(1, .ar),(2, .ar)]})]
theorem ag_:cC P 206 [.aE (.int .u32), .aE (.int .u32), .aE (.int .u32)] ab.Dp.T:=cU ag9 bZ Go.Proofs.Tryz.f206 [.tmp 6, .tmp 7] [.aE (.int .u32), .aE (.int .u32)] (cE _) (Go.aj.kZ ab.aao fun h l y K bh=>cJ (by kernel_rfl) (ab.Xt h l y K bh))
noncomputable def aha:bD:=b2 (P:=P) b3 [⟨_,qi.d⟩,⟨_,ag_.d⟩] [(0,{bO:=[(0, .ar),(1, .ar),(6, .ar),(7, .aE (.int .u32)),(8, .aE (.int .i64))],I:=[.af .u32]})] []
theorem Tb:cC P 190 [Go.aj.dm, .aE (.int .u32)] ab.Dr.T:=cU aha bZ Go.Proofs.Tryz.f190 [.tmp 4, .tmp 5] [Go.aj.dm, .aE (.int .u32)] (cE _) (Go.aj.fD ab.aaq fun a d K bh=>cJ (by kernel_rfl) (ab.abM a d K bh))
noncomputable def ahb:bD:=b2 (P:=P) b3 [⟨_,qi.d⟩] [] []
theorem Tc:cC P 196 [.aE (.int .u64)] ab.BU.T:=cU ahb bZ Go.Proofs.Tryz.f196 [.tmp 2] [Go.aj.dm] (cE _) (Go.aj.gC ab.Xn fun u K bh=>cJ (by kernel_rfl) (ab.X4 u K bh))
noncomputable def ahc:bD:=b2 (P:=P) b3 [] [] [(4,{bO:=[(0, .aE (.int .u32)),(2, .aE (.int .i64))]})]
theorem Td:cC P 184 [.aE (.int .u32)] ab.Ds.T:=cU ahc bZ Go.Proofs.Tryz.f184 [.tmp 2] [Go.aj.b0] (cE _) (Go.aj.gC ab.aar fun x K bh=>cJ (by kernel_rfl) (ab.Xw x K bh))
noncomputable def ahd:bD:=b2 (P:=P) b3 [⟨_,Td.d⟩] [] []
theorem ahe:cC P 212 [.aE (.int .u32)] ab.Ca.T:=cU ahd bZ Go.Proofs.Tryz.f212 [.tmp 2] [Go.aj.b0] (cE _) (Go.aj.gC ab.X2 fun x K bh=>cJ (by kernel_rfl) (ab.VD x K bh))
noncomputable def ahf:bD:=b2 (P:=P) b3 [] [(0,{bO:=[(1, .ar),(5, .ar),(13, .ar),(14, .ar),(15, .aE (.int .i64))],I:=[.af .u32]})] []
theorem ahg:qI P 213 [Go.aj.dm, .aE (.int .u64)] ab.Dt.T:=FI ahf bZ Go.Proofs.Tryz.f213 4 Go.aj.dm (yO _) (Go.aj.TN ab.aas fun a k K bh=>cJ (by kernel_rfl) (ab.abQ a k K bh))
noncomputable def ahh:bD:=b2 (P:=P) b3 [⟨_,qi.n⟩,⟨_,ahe.n⟩,⟨_,ahg.n⟩] [(0,{bO:=[(4, .ar),(6, .ar),(7, .ar),(8, .ar),(9, .ar),(10, .ar),(11, .ar),(12, .aE (.int .i64))],I:=[.af .u32, .ar, .af .u32]}),(2,{bO:=[(4, .ar),(6, .ar),(7, .ar),(8, .ar),(9, .ar),(10, .ar),(11, .ar),(12, .ar),(14, .aE (.int .u64)),(15, .aE (.int .u64))],I:=[.ar, .ar, .ar]}),(4,{bO:=[(4, .ar),(6, .ar),(7, .ar),(8, .ar),(9, .ar),(10, .ar),(11, .ar),(12, .ar),(14, .ar),(16, .aE (.int .u64)),(17, .aE (.int .u64)),(117, .ar),(118, .ar),(119, .aE (.int .i64))],I:=[.af .u32, .ar, .af .u32]}),(6,{bO:=[(4, .ar),(6, .ar),(7, .ar),(8, .ar),(9, .ar),(10, .ar),(11, .ar),(12, .ar),(14, .ar),(17, .aE (.int .u64)),(177, .ar),(178, .ar),(179, .aE (.int .i64))],I:=[.af .u32, .ar, .af .u32]}),(8,{bO:=[(4, .ar),(5, .ar),(6, .ar),(7, .ar),(223, .ar),(224, .aE (.int .i64))],I:=[.af .u32, .ar, .af .u32, .af .u32]})] [(100002,{bO:=[(4, .ar),(6, .ar),(7, .ar),(8, .ar),(9, .ar),(10, .ar),(11, .ar),(12, .ar),(14, .aE (.int .u64))],I:=[.ar, .ar, .ar]}),(174,{bO:=[(4, .ar),(6, .ar),(7, .ar),(8, .ar),(9, .ar),(10, .ar),(11, .ar),(12, .ar),(14, .aE (.int .u64))],I:=[.af .u32, .ar, .af .u32]})]
theorem ahi:cC P 197 [Go.aj.dm,Go.aj.dm] ab.DX.T:=cU ahh bZ Go.Proofs.Tryz.f197 [.tmp 4, .tmp 5] [Go.aj.dm,Go.aj.dm] (cE _) (Go.aj.fD ab.abK fun a b K bh=>cJ (by kernel_rfl) (ab.adr a b K bh))
noncomputable def ahj:bD:=b2 (P:=P) b3 [⟨_,E1.d⟩,⟨_,qi.d⟩,⟨_,Tb.d⟩,⟨_,Ta.d⟩,⟨_,Tc.d⟩,⟨_,ahi.d⟩] [] []
theorem Te:cC P 157 [Go.aj.dm,Go.aj.dm] ab.CK.T:=cU ahj bZ Go.Proofs.Tryz.f157 [.tmp 4, .tmp 5, .tmp 6] [Go.aj.dm,Go.aj.dm,Go.aj.b0] (cE _) (Go.aj.fD ab.YQ fun a b K bh=>cJ (by kernel_rfl) (ab.aax a b K bh))
noncomputable def ahk:bD:=b2 (P:=P) b3 [] [(0,{bO:=[(3, .aE (.int .u64)),(6, .ar),(7, .ar),(8, .aE (.int .i64))]})] []
theorem ahl:cC P 195 [Go.aj.dm] ab.CJ.T:=cU ahk bZ Go.Proofs.Tryz.f195 [.tmp 2] [.aE (.int .u64)] (cE _) (Go.aj.gC ab.YP fun a K bh=>cJ (by kernel_rfl) (ab.aau a K bh))
noncomputable def ahm:bD:=b2 (P:=P) b3 [⟨_,Jc.n⟩,⟨_,Te.n⟩,⟨_,ahl.n⟩,⟨_,Tc.n⟩] [(0,{bO:=[(0, .aE (.cv .u32)),(1, .aE (.cv .u32))]}),(2,{bO:=[(8, .aE (.int .u64)),(9, .aE (.int .u64))]})] []
theorem ahn:cC P 156 [Go.aj.dm,Go.aj.dm] ab.EE.T:=cU ahm bZ Go.Proofs.Tryz.f156 [.tmp 4] [Go.aj.dm] (cE _) (Go.aj.fD ab.adl fun a b K bh=>cJ (by kernel_rfl) (ab.aer a b K bh))
noncomputable def aho:bD:=b2 (P:=P) b3 [⟨_,Jc.n⟩,⟨_,ahn.n⟩,⟨_,Te.n⟩] [] []
theorem z7:cC P 117 [Go.aj.h5,Go.aj.dm,Go.aj.dm] ab.CS.T:=cU aho bZ Go.Proofs.Tryz.f117 [.cell 6 133] [Go.aj.fe] (cE _) (Go.aj.kZ ab.Zn fun s a b K bh=>cJ (by kernel_rfl) (ab.Y8 s a b K bh))
noncomputable def ahp:bD:=b2 (P:=P) b3 [⟨_,E1.n⟩] [] []
theorem ahq:cC P 169 [Go.aj.dm] ab.CT.T:=cU ahp bZ Go.Proofs.Tryz.f169 [.tmp 2] [Go.aj.h5] (cE _) (Go.aj.gC ab.Zo fun a K bh=>cJ (by kernel_rfl) (ab.Y9 a K bh))
noncomputable def ahr:bD:=b2 (P:=P) b3 [⟨_,z7.n⟩,⟨_,ahq.n⟩] [] []
theorem vb:cC P 139 [Go.aj.fe] ab.wU.T:=cU ahr bZ Go.Proofs.Tryz.f139 [.cell 2 133] [Go.aj.fe] (cE _) (Go.aj.kZ ab.Og fun s a b K bh=>cJ (by kernel_rfl) (ab.Y_ s a b K bh))
noncomputable def ahs:bD:=b2 (P:=P) b3 [] [] []
theorem Tf:cC P 140 [Go.aj.dm] ab.EJ.T:=cU ahs bZ Go.Proofs.Tryz.f140 [.tmp 2] [Go.aj.h5] (cE _) (Go.aj.gC ab.ad3 fun a K bh=>cJ (by kernel_rfl) (ab.adw a K bh))
noncomputable def aht:bD:=b2 (P:=P) b3 [] [] []
theorem Tg:cC P 175 [.aE (.int .u32), .aE (.int .u32), .aE (.int .u32)] ab.Dm.T:=cU aht bZ Go.Proofs.Tryz.f175 [.tmp 6, .tmp 7] [.aE (.int .u32), .aE (.int .u32)] (cE _) (Go.aj.kZ ab.aam fun x y c K bh=>cJ (by kernel_rfl) (ab.Xs x y c K bh))
noncomputable def ahu:bD:=b2 (P:=P) b3 [⟨_,qi.d⟩,⟨_,Tg.d⟩] [(0,{bO:=[(0, .ar),(1, .ar),(5, .ar),(6, .aE (.int .u32)),(21, .ar),(22, .ar),(23, .aE (.int .i64))],I:=[.af .u32]})] [(14,{bO:=[(0, .aE (.cv .u32)),(1, .aE (.cv .u32))]}),(31,{bO:=[(0, .ar),(1, .ar),(5, .ar),(6, .ar),(7, .ar),(8, .ar),(9, .aE (.int .u32)),(21, .ar),(22, .ar),(23, .ar)],I:=[.ar]})]
theorem ahv:cC P 170 [Go.aj.dm,Go.aj.dm] ab.iG.T:=cU ahu bZ Go.Proofs.Tryz.f170 [.tmp 4] [Go.aj.dm] (cE _) (Go.aj.fD ab.adi fun a b K bh=>cJ (by kernel_rfl) (ab.aem a b K bh))
noncomputable def ahw:bD:=b2 (P:=P) b3 [] [] []
theorem ahx:cC P 198 [.aE (.int .u32), .aE (.int .u32), .aE (.int .u32)] ab.Dn.T:=cU ahw bZ Go.Proofs.Tryz.f198 [.tmp 6, .tmp 7] [.aE (.int .u32), .aE (.int .u32)] (cE _) (Go.aj.kZ ab.aan fun x y c K bh=>cJ (by kernel_rfl) (ab.Xu x y c K bh))
noncomputable def ahy:bD:=b2 (P:=P) b3 [⟨_,E1.d⟩,⟨_,qi.d⟩,⟨_,ahx.d⟩] [(0,{bO:=[(1, .ar),(6, .ar),(7, .aE (.int .u32)),(22, .ar),(23, .ar),(24, .aE (.int .i64))],I:=[.af .u32]})] [(32,{bO:=[(1, .ar),(6, .ar),(7, .ar),(8, .ar),(9, .ar),(10, .aE (.int .u32)),(22, .ar),(23, .ar),(24, .ar)],I:=[.ar]})]
theorem ahz:cC P 172 [Go.aj.dm,Go.aj.dm] ab.ED.T:=cU ahy bZ Go.Proofs.Tryz.f172 [.tmp 4, .tmp 5] [Go.aj.dm,Go.aj.b0] (cE _) (Go.aj.fD ab.adk fun a b K bh=>cJ (by kernel_rfl) (ab.aep a b K bh))
noncomputable def ahA:bD:=b2 (P:=P) b3 [⟨_,z7.n⟩,⟨_,ahv.n⟩,⟨_,E1.n⟩,⟨_,ahz.n⟩] [] [(25,{bO:=[(0, .aE (.bool)),(1, .aE (.cv .u32)),(3, .aE (.cv .u32)),(4, .ar),(10, .ar)],I:=[.ar]})]
theorem ahB:cC P 141 [Go.aj.h5,Go.aj.dm,Go.aj.h5,Go.aj.dm,Go.aj.dm] ab.Cd.T:=cU ahA bZ Go.Proofs.Tryz.f141 [.cell 10 133] [Go.aj.fe] (cE _) (Go.aj.ajx ab.X_ fun s a t b d K bh=>cJ (by kernel_rfl) (ab.X7 s a t b d K bh))
noncomputable def ahC:bD:=b2 (P:=P) b3 [] [] []
theorem ahD:cC P 174 [.aE (.int .u32), .aE (.int .u32)] ab.Dl.T:=cU ahC bZ Go.Proofs.Tryz.f174 [.tmp 4, .tmp 5] [.aE (.int .u32), .aE (.int .u32)] (cE _) (Go.aj.fD ab.aal fun x y K bh=>cJ (by kernel_rfl) (ab.Xr x y K bh))
noncomputable def ahE:bD:=b2 (P:=P) b3 [⟨_,qi.d⟩,⟨_,ahD.d⟩,⟨_,Tg.d⟩] [(0,{bO:=[(1, .ar),(5, .ar),(24, .ar),(25, .ar),(26, .aE (.int .i64))],I:=[.af .u32]}),(2,{bO:=[(1, .ar),(5, .ar),(6, .ar),(7, .ar),(8, .aE (.int .u32)),(24, .ar),(25, .ar),(26, .ar),(31, .ar),(32, .ar),(33, .aE (.int .i64))],I:=[.af .u32]})] []
theorem Jd:cC P 142 [Go.aj.dm,Go.aj.dm] ab.EC.T:=cU ahE bZ Go.Proofs.Tryz.f142 [.tmp 4] [Go.aj.dm] (cE _) (Go.aj.fD ab.adj fun a b K bh=>cJ (by kernel_rfl) (ab.aen a b K bh))
noncomputable def ahF:bD:=b2 (P:=P) b3 [⟨_,xv.n⟩,⟨_,vb.n⟩,⟨_,Tf.n⟩,⟨_,ahB.n⟩,⟨_,Jd.n⟩] [] []
theorem Je:cC P 100 [Go.aj.fe,Go.aj.fe] ab.xd.T:=cU ahF bZ Go.Proofs.Tryz.f100 [.cell 4 39] [Go.aj.fe] (cE _) (Go.aj.rT ab.Ql fun s a b t c d K bh=>cJ (by kernel_rfl) (ab.adA s a b t c d K bh))
noncomputable def ahG:bD:=b2 (P:=P) b3 [⟨_,vb.n⟩] [] []
theorem E2:cC P 101 [Go.aj.fe] ab.w3.T:=cU ahG bZ Go.Proofs.Tryz.f101 [.tmp 2] [Go.aj.b0] (cE _) (Go.aj.kZ ab.aa0 fun s a b K bh=>cJ (by kernel_rfl) (ab.aca s a b K bh))
noncomputable def ahH:bD:=b2 (P:=P) b3 [] [] []
theorem ahI:cC P 204 [Go.aj.b0] ab.DB.T:=cU ahH bZ Go.Proofs.Tryz.f204 [.tmp 2] [Go.aj.h5] (cE _) (Go.aj.gC ab.aa5 fun a K bh=>cJ (by kernel_rfl) (ab.VX a K bh))
noncomputable def ahJ:bD:=b2 (P:=P) b3 [⟨_,ahI.n⟩] [] []
theorem ahK:cC P 186 [Go.aj.b0,Go.aj.b0] ab.D_.T:=cU ahJ bZ Go.Proofs.Tryz.f186 [.tmp 4] [Go.aj.b0] (cE _) (Go.aj.fD ab.acC fun a b K bh=>cJ (by kernel_rfl) (ab.VO a b K bh))
noncomputable def ahL:bD:=b2 (P:=P) b3 [⟨_,ahK.n⟩] [(0,{bO:=[(0, .ar),(1, .ar),(9, .ar),(10, .ar),(11, .aE (.int .i64))]})] []
theorem Th:cC P 145 [.aE (.cv .i64), .aE (.cv .i64)] ab.Cj.T:=cU ahL bZ Go.Proofs.Tryz.f145 [.tmp 4] [Go.aj.b0] (cE _) (Go.aj.fD ab.Yf fun a b K bh=>cJ (by kernel_rfl) (ab.Vu a b K bh))
noncomputable def ahM:bD:=b2 (P:=P) b3 [⟨_,Th.n⟩] [] []
theorem m6:pF P 103 [.struct [] [.bool], .struct [] [.int .i64, .int .i64, .int .i64, .int .i64, .int .i64, .int .i64, .int .i64, .int .i64, .bool, .cv .u32, .cv .u32], .struct [] [.int .i64, .int .i64, .int .i64, .int .i64, .int .i64, .int .i64, .int .i64, .int .i64, .bool, .cv .u32, .cv .u32]] (ab.qc.T ⟨103,true⟩):=AM ahM bZ Go.Proofs.Tryz.f103 [.tmp 6] (cE _) (Go.aj.fD (ab.acU 103) fun a b K bh=>cJ (by kernel_rfl) (ab.Vm _ rfl a b K bh))
noncomputable def afg:bD:=b2 (P:=P) b3 [⟨_,m6.n⟩] [(0,{bO:=[(0, .ar),(1, .ar),(2, .ar),(3, .ar),(8, .aE (.int .i64))],I:=[.av 11]}),(2,{bO:=[(0, .ar),(1, .ar),(2, .ar),(3, .ar),(8, .ar),(9, .aE (.int .i64))],I:=[.av 11]})] []
theorem afh:h6 P 176 0 [Go.aj.b0,Go.aj.b0,Go.aj.fP] (ab.EK.T ⟨103,true⟩):=oE 0 afg bZ Go.Proofs.Tryz.f176 [] [] (hh _) (Go.aj.k0 (ab.Ri ⟨103,true⟩) fun l a b K bh=>oc (by kernel_rfl) (ab.K1 l a b K bh))
noncomputable def afi:bD:=b2 (P:=P) b3 [⟨_,m6.n⟩] [(0,{bO:=[(0, .ar),(2, .ar),(3, .ar),(4, .ar),(10, .aE (.int .i64))],I:=[.av 11]})] [(40,{bO:=[(0, .ar),(2, .ar),(3, .ar),(4, .ar),(10, .ar),(11, .aE (.int .i64))],I:=[.av 11]})]
theorem afj:hf P 199 [Go.aj.b0,Go.aj.b0,Go.aj.b0,Go.aj.fP] (ab.D4.T ⟨103,true⟩):=ig afi bZ Go.Proofs.Tryz.f199 [] [] (hh _) (Go.aj.nb (ab.Qm ⟨103,true⟩) fun l lo hi f K bh=>h8 (by kernel_rfl) (ab.Lg l lo hi f K bh))
noncomputable def afk:bD:=b2 (P:=P) b3 [⟨_,m6.n⟩,⟨_,afj.d⟩] [(0,{bO:=[(0, .ar),(3, .ar),(8, .ar),(9, .ar),(10, .ar),(11, .aE (.int .i64))],I:=[.av 11]}),(2,{bO:=[(0, .ar),(3, .ar),(8, .ar),(9, .ar),(12, .aE (.int .i64))],I:=[.av 11]})] [(100000,{bO:=[(0, .ar),(3, .ar),(8, .ar),(9, .ar),(10, .ar)],I:=[.av 11]})]
theorem afl:hf P 177 [Go.aj.b0,Go.aj.b0,Go.aj.fP] (ab.D5.T ⟨103,true⟩):=ig afk bZ Go.Proofs.Tryz.f177 [] [] (hh _) (Go.aj.k0 (ab.Qn ⟨103,true⟩) fun l a b K bh=>h8 (by kernel_rfl) (ab.Lh l a b K bh))
noncomputable def ahN:bD:=b2 (P:=P) b3 [] [] [(4,{bO:=[(0, .aE (.int .u64)),(2, .aE (.int .i64))]}),(8,{bO:=[(0, .aE (.int .u64)),(2, .aE (.int .i64))]})]
theorem ahO:cC P 185 [.aE (.int .u64)] ab.w6.T:=cU ahN bZ Go.Proofs.Tryz.f185 [.tmp 2] [Go.aj.b0] (cE _) (Go.aj.gC ab.Pc fun x K bh=>cJ (by kernel_rfl) (ab.Xx x K bh))
noncomputable def ahP:bD:=b2 (P:=P) b3 [⟨_,Td.n⟩,⟨_,ahO.n⟩] [] []
theorem Jf:cC P 144 [.aE (.int .u64)] ab.w6.T:=cU ahP bZ Go.Proofs.Tryz.f144 [.tmp 2] [Go.aj.b0] (cE _) (Go.aj.gC ab.Pc fun x K bh=>cJ (by kernel_rfl) (ab.Y4 x K bh))
noncomputable def ahQ:bD:=b2 (P:=P) b3 [⟨_,Jf.n⟩] [] []
theorem Ti:cC P 200 [Go.aj.b0] ab.EM.T:=cU ahQ bZ Go.Proofs.Tryz.f200 [.tmp 2] [.aE (.int .u64)] (cE _) (Go.aj.gC ab.ad7 fun x K bh=>cJ (by kernel_rfl) (ab.VM x K bh))
noncomputable def ahR:bD:=b2 (P:=P) b3 [] [] []
theorem Tj:hf P 201 [] ab.EN.T:=ig ahR bZ Go.Proofs.Tryz.f201 [.tmp 2] [.aE (.int .u64)] ab.aeE (Go.aj.Fm ab.ad8 fun x K bh=>h8 (by kernel_rfl) (ab.VH x K bh))
noncomputable def afm:bD:=b2 (P:=P) b3 [⟨_,m6.n⟩,⟨_,Ti.n⟩,⟨_,Tj.d⟩] [(0,{bO:=[(0, .ar),(1, .ar),(8, .ar),(9, .ar),(10, .ar),(11, .aE (.int .i64))],I:=[.av 11, .cells [.int .u64]]})] [(45,{bO:=[(0, .ar),(1, .ar),(8, .ar),(9, .ar),(10, .ar),(11, .ar),(12, .aE (.int .i64))],I:=[.av 11, .ar]})]
theorem afn:hf P 178 [Go.aj.b0,Go.aj.b0,Go.aj.fP] (ab.zj.T ⟨103,true⟩):=ig afm bZ Go.Proofs.Tryz.f178 [] [] (ab.Qr _) (Go.aj.k0 (ab.Pb ⟨103,true⟩) fun l a b K bh=>h8 (by kernel_rfl) (ab.K2 l a b K bh))
noncomputable def afo:bD:=b2 (P:=P) b3 [⟨_,m6.n⟩] [] []
theorem afp:h6 P 214 3 [Go.aj.du,Go.aj.b0,Go.aj.b0,Go.aj.fP] (ab.D7.T ⟨103,true⟩):=oE 3 afo bZ Go.Proofs.Tryz.f214 [.tmp 10, .tmp 11] [Go.aj.b0,Go.aj.b0] (hh _) (Go.aj.nb (ab.Qp ⟨103,true⟩) fun l a b s K bh=>oc (by kernel_rfl) (ab.Lm l a b s K bh))
noncomputable def afq:bD:=b2 (P:=P) b3 [⟨_,m6.n⟩,⟨_,afp.n⟩] [] []
theorem Su:h6 P 203 4 [Go.aj.du,Go.aj.b0,Go.aj.b0,Go.aj.b0,Go.aj.fP] (ab.EO.T ⟨103,true⟩):=oE 4 afq bZ Go.Proofs.Tryz.f203 [.tmp 12] [Go.aj.b0] (hh _) (Go.aj.Fo (ab.Rk ⟨103,true⟩) fun l a b e s K bh=>oc (by kernel_rfl) (ab.Ln l a b e s K bh))
noncomputable def afr:bD:=b2 (P:=P) b3 [⟨_,m6.n⟩,⟨_,Su.n⟩] [] []
theorem afs:h6 P 202 2 [Go.aj.du,Go.aj.b0,Go.aj.fP] (ab.CW.T ⟨103,true⟩):=oE 2 afr bZ Go.Proofs.Tryz.f202 [.tmp 8] [Go.aj.b0] (hh _) (Go.aj.k0 (ab.Oi ⟨103,true⟩) fun l a s K bh=>oc (by kernel_rfl) (ab.KZ l a s K bh))
noncomputable def aft:bD:=b2 (P:=P) b3 [⟨_,m6.n⟩,⟨_,afs.n⟩,⟨_,Su.n⟩] [] [(34,{bO:=[(11, .ar),(13, .aE (.int .i64))],I:=[.cells [.int .i64]]}),(36,{bO:=[(0, .ar),(3, .ar),(11, .ar),(12, .aE (.int .i64)),(13, .aE (.int .i64)),(14, .aE (.int .i64))],I:=[.cells [.int .i64]]})]
theorem afu:pF P 179 [Go.aj.du,Go.aj.b0,Go.aj.b0,Go.aj.fP] (ab.Dz.T ⟨103,true⟩):=AM aft bZ Go.Proofs.Tryz.f179 [.tmp 8, .tmp 9] (cE _) (Go.aj.kZ (ab.Pa ⟨103,true⟩) fun l a b K bh=>cJ (by kernel_rfl) (ab.K8 l a b K bh))
noncomputable def afv:bD:=b2 (P:=P) b3 [⟨_,m6.n⟩] [(0,{bO:=[(0, .ar),(8, .aE (.int .i64)),(9, .aE (.int .i64))],I:=[.av 11]})] []
theorem afw:hf P 180 [Go.aj.b0,Go.aj.b0,Go.aj.fP] (ab.EL.T ⟨103,true⟩):=ig afv bZ Go.Proofs.Tryz.f180 [] [] (hh _) (Go.aj.k0 (ab.Rj ⟨103,true⟩) fun l a b K bh=>h8 (by kernel_rfl) (ab.K4 l a b K bh))
noncomputable def afx:bD:=b2 (P:=P) b3 [⟨_,m6.n⟩] [(0,{bO:=[(0, .ar),(1, .ar),(2, .ar),(3, .ar),(9, .aE (.int .i64)),(10, .aE (.int .i64))],I:=[.av 11]}),(2,{bO:=[(0, .ar),(1, .ar),(2, .ar),(3, .ar),(9, .aE (.int .i64)),(10, .ar)],I:=[.av 11]}),(4,{bO:=[(0, .ar),(1, .ar),(2, .ar),(3, .ar),(9, .ar),(10, .ar),(11, .aE (.int .i64))],I:=[.av 11]}),(6,{bO:=[(0, .ar),(1, .ar),(2, .ar),(3, .ar),(9, .ar),(10, .ar),(12, .aE (.int .i64))],I:=[.av 11]})] [(100000,{bO:=[(0, .ar)],I:=[.av 11]}),(100002,{bO:=[(0, .ar),(1, .ar),(2, .ar),(3, .ar),(9, .aE (.int .i64)),(10, .ar)],I:=[.av 11]}),(65,{bO:=[(0, .ar),(1, .ar),(2, .ar),(3, .ar),(9, .ar),(10, .ar)],I:=[.av 11]})]
theorem afy:hf P 181 [Go.aj.b0,Go.aj.b0,Go.aj.fP] (ab.Ci.T ⟨103,true⟩):=ig afx bZ Go.Proofs.Tryz.f181 [.tmp 8] [Go.aj.h5] (hh _) (Go.aj.k0 (ab.Nx ⟨103,true⟩) fun l a b K bh=>h8 (by kernel_rfl) (ab.KT l a b K bh))
noncomputable def afz:bD:=b2 (P:=P) b3 [⟨_,m6.n⟩] [(0,{bO:=[(0, .ar),(1, .ar),(4, .ar),(11, .aE (.int .i64)),(12, .aE (.int .i64))],I:=[.av 11]}),(2,{bO:=[(0, .ar),(1, .ar),(4, .ar),(11, .aE (.int .i64)),(12, .ar)],I:=[.av 11]}),(4,{bO:=[(0, .ar),(1, .ar),(4, .ar),(11, .ar),(12, .aE (.int .i64))],I:=[.av 11]})] [(100000,{bO:=[(0, .ar),(11, .aE (.int .i64))],I:=[.av 11]}),(100002,{bO:=[(0, .ar),(1, .ar),(4, .ar),(11, .aE (.int .i64)),(12, .ar)],I:=[.av 11]}),(100004,{bO:=[(0, .ar),(1, .ar),(4, .ar),(11, .ar),(12, .aE (.int .i64))],I:=[.av 11]})]
theorem afA:hf P 182 [Go.aj.b0,Go.aj.b0,Go.aj.b0,Go.aj.fP] (ab.CV.T ⟨103,true⟩):=ig afz bZ Go.Proofs.Tryz.f182 [.tmp 10] [Go.aj.b0] (hh _) (Go.aj.nb (ab.Oh ⟨103,true⟩) fun l a b p K bh=>h8 (by kernel_rfl) (ab.KY l a b p K bh))
noncomputable def afB:bD:=b2 (P:=P) b3 [⟨_,m6.n⟩] [(0,{bO:=[(0, .ar),(1, .ar),(4, .ar),(12, .aE (.int .i64)),(13, .ar)],I:=[.av 11]}),(2,{bO:=[(0, .ar),(1, .ar),(4, .ar),(12, .ar),(13, .aE (.int .i64))],I:=[.av 11]}),(4,{bO:=[(0, .ar),(1, .ar),(4, .ar),(12, .aE (.int .i64)),(13, .aE (.int .i64))],I:=[.av 11]}),(6,{bO:=[(0, .ar),(1, .ar),(4, .ar),(12, .aE (.int .i64)),(13, .ar)],I:=[.av 11]}),(8,{bO:=[(0, .ar),(1, .ar),(4, .ar),(12, .ar),(13, .aE (.int .i64))],I:=[.av 11]})] [(100000,{bO:=[(0, .ar),(1, .ar),(4, .ar),(12, .aE (.int .i64)),(13, .ar)],I:=[.av 11]}),(100002,{bO:=[(0, .ar),(1, .ar),(4, .ar),(12, .ar),(13, .aE (.int .i64))],I:=[.av 11]}),(100004,{bO:=[(0, .ar),(1, .ar),(13, .aE (.int .i64))],I:=[.av 11]}),(100006,{bO:=[(0, .ar),(1, .ar),(4, .ar),(12, .aE (.int .i64)),(13, .ar)],I:=[.av 11]}),(100008,{bO:=[(0, .ar),(1, .ar),(4, .ar),(12, .ar),(13, .aE (.int .i64))],I:=[.av 11]})]
theorem afC:hf P 183 [Go.aj.b0,Go.aj.b0,Go.aj.b0,Go.aj.fP] (ab.D6.T ⟨103,true⟩):=ig afB bZ Go.Proofs.Tryz.f183 [.tmp 10, .tmp 11] [Go.aj.b0,Go.aj.h5] (hh _) (Go.aj.nb (ab.Qo ⟨103,true⟩) fun l a b p K bh=>h8 (by kernel_rfl) (ab.Le l a b p K bh))
noncomputable def afD (n:Nat) (ay:h6 P 143 0 [Go.aj.b0,Go.aj.b0,Go.aj.b0,Go.aj.fP] (ab.kT.T ⟨103,true⟩ n)):bD:=b2 (P:=P) b3 [⟨_,m6.n⟩,⟨_,ay.d⟩,⟨_,afh.n⟩,⟨_,afl.n⟩,⟨_,afn.d⟩,⟨_,afu.n⟩,⟨_,afw.n⟩,⟨_,afy.n⟩,⟨_,afA.n⟩,⟨_,afC.n⟩] [(0,{bO:=[(0, .ar),(1, .aE (.int .i64)),(2, .aE (.int .i64)),(3, .aE (.int .i64)),(4, .ar),(10, .aE (.bool)),(11, .aE (.bool))],I:=[.av 11]})] [(39,{bO:=[(0, .ar),(1, .ar),(2, .ar),(3, .aE (.int .i64)),(4, .ar),(10, .ar),(11, .ar),(12, .ar)],I:=[.av 11]}),(56,{bO:=[(0, .ar),(1, .ar),(2, .ar),(3, .ar),(4, .ar),(10, .ar),(11, .ar),(12, .ar),(13, .aE (.int .i64)),(14, .aE (.int .i64))],I:=[.av 11]}),(75,{bO:=[(0, .ar),(1, .ar),(2, .ar),(3, .ar),(4, .ar),(10, .ar),(11, .ar),(12, .ar),(13, .ar)],I:=[.av 11]})]
theorem afE (n:Nat)(ay:h6 P 143 0 [Go.aj.b0,Go.aj.b0,Go.aj.b0,Go.aj.fP] (ab.kT.T ⟨103,true⟩ n)):h6 P 143 0 [Go.aj.b0,Go.aj.b0,Go.aj.b0,Go.aj.fP] (ab.kT.T ⟨103,true⟩ (n+1)):=oE 0 (afD n ay) bZ Go.Proofs.Tryz.f143 [] [] (ab.DN _ _) (Go.aj.nb (ab.Ib ⟨103,true⟩ (n+1)) fun l a b m K bh=>oc (by kernel_rfl) (ab.Lk n l a b m K bh))
theorem Sv:∀n,h6 P 143 0 [Go.aj.b0,Go.aj.b0,Go.aj.b0,Go.aj.fP] (ab.kT.T ⟨103,true⟩ n)
 |0=>⟨ab.Qt _ ⟨_,Go.Proofs.Tryz.func143,rfl,by kernel_rfl⟩,ab.DN _ _⟩
 |n+1=>afE n (Sv n)
theorem aeJ:h6 P 143 0 [Go.aj.b0,Go.aj.b0,Go.aj.b0,Go.aj.fP] (ab.s3.T ⟨103,true⟩):=⟨ab.Qs (fun n=>(Sv n).s) (ab.Rn _),ab.Rl _⟩
noncomputable def afF:bD:=b2 (P:=P) b3 [⟨_,m6.n⟩,⟨_,aeJ.d⟩,⟨_,Jf.n⟩] [] []
theorem afG:h6 P 102 0 [Go.aj.fP] (ab.zw.T ⟨103,true⟩):=oE 0 afF bZ Go.Proofs.Tryz.f102 [] [] (ab.Rm _) (Go.aj.Fm (ab.Qq ⟨103,true⟩) fun l K bh=>oc (by kernel_rfl) (ab.Lb l K bh))
noncomputable def alm:bD:=b2 (P:=P) b3 [⟨_,Je.n⟩,⟨_,E2.n⟩,⟨_,afG.d⟩] [(0,{bO:=[(3, .ar),(4, .ar),(13, .ar),(14, .ar),(15, .aE (.int .i64))],I:=[.map 8 11, .av 8],conv:=[(4, .ee 8)]}),(2,{bO:=[(3, .ar),(9, .ar),(44, .ar),(45, .ar),(46, .aE (.int .i64))],I:=[.map 8 11, .av 8, .av 11],conv:=[(9, .ee 11)]})] [(27,{bO:=[(3, .ar),(4, .ar),(6, .ar),(13, .ar),(14, .ar),(15, .ar)],I:=[.map 8 11, .av 8, .av 11]})]
theorem AQ:cC P 54 [Go.aj.du] ab.sv.T:=cU alm bZ Go.Proofs.Tryz.f54 [.tmp 2] [Go.aj.du] (cE _) (Go.aj.gC ab.Ny fun l K bh=>cJ (by kernel_rfl) (ab.VI l K bh))
noncomputable def aln:bD:=b2 (P:=P) b3 [] [(0,{bO:=[(1, .ar),(5, .aE (.int .i64)),(8, .ar),(9, .ar),(10, .aE (.int .i64))]})] []
theorem alo:cC P 65 [Go.aj.du,Go.aj.b0] ab.Eg.T:=cU aln bZ Go.Proofs.Tryz.f65 [.tmp 4] [Go.aj.b0] (cE _) (Go.aj.fD ab.acI fun p v K bh=>cJ (by kernel_rfl) (ab.V7 p v K bh))
noncomputable def alp:bD:=b2 (P:=P) b3 [⟨_,alo.n⟩] [(0,{bO:=[(0, .ar),(1, .ar),(2, .ar),(8, .aE (.int .i64))]})] []
theorem alq:cC P 55 [Go.aj.du,Go.aj.b0,Go.aj.du] ab.El.T:=cU alp bZ Go.Proofs.Tryz.f55 [.tmp 6] [Go.aj.h5] (cE _) (Go.aj.kZ ab.acP fun p n q K bh=>cJ (by kernel_rfl) (ab.VF p n q K bh))
noncomputable def ahS:bD:=b2 (P:=P) b3 [] [(0,{bO:=[(2, .ar),(3, .ar),(4, .ar),(6, .aE (.int .i64))],I:=[.av 8, .av 8, .av 8]})] []
theorem ahT:cC P 104 [.arr 8 (.aE (.int .i64)) [.int .i64, .int .i64, .int .i64, .int .i64, .int .i64, .int .i64, .int .i64, .int .i64], .arr 8 (.aE (.int .i64)) [.int .i64, .int .i64, .int .i64, .int .i64, .int .i64, .int .i64, .int .i64, .int .i64]] ab.DC.T:=cU ahS bZ Go.Proofs.Tryz.f104 [.cell 4 36] [.arr 8 (.aE (.int .i64)) [.int .i64, .int .i64, .int .i64, .int .i64, .int .i64, .int .i64, .int .i64, .int .i64]] (cE _) (Go.aj.fD ab.aa6 fun a b K bh=>cJ (by kernel_rfl) (ab.Wb a b K bh))
noncomputable def ahU:bD:=b2 (P:=P) b3 [⟨_,z7.n⟩,⟨_,xv.n⟩,⟨_,vb.n⟩,⟨_,Jd.n⟩] [] []
theorem Tk:cC P 105 [Go.aj.fe,Go.aj.fe] ab.D1.T:=cU ahU bZ Go.Proofs.Tryz.f105 [.cell 4 39] [Go.aj.fe] (cE _) (Go.aj.rT ab.acy fun s a b t c d K bh=>cJ (by kernel_rfl) (ab.adD s a b t c d K bh))
noncomputable def ahV:bD:=b2 (P:=P) b3 [⟨_,Th.n⟩] [] []
theorem m7:pF P 149 [.struct [] [.int .i64], .struct [] [.int .i64, .int .i64, .int .i64, .int .i64, .int .i64, .int .i64, .int .i64, .int .i64, .bool, .cv .u32, .cv .u32], .struct [] [.int .i64, .int .i64, .int .i64, .int .i64, .int .i64, .int .i64, .int .i64, .int .i64, .bool, .cv .u32, .cv .u32]] (ab.qc.T ⟨149,false⟩):=AM ahV bZ Go.Proofs.Tryz.f149 [.tmp 6] (cE _) (Go.aj.fD (ab.acV 149) fun a b K bh=>cJ (by kernel_rfl) (ab.Vq _ rfl a b K bh))
noncomputable def afH:bD:=b2 (P:=P) b3 [⟨_,m7.n⟩] [(0,{bO:=[(0, .ar),(1, .ar),(2, .ar),(3, .ar),(8, .aE (.int .i64))],I:=[.av 11]}),(2,{bO:=[(0, .ar),(1, .ar),(2, .ar),(3, .ar),(8, .ar),(9, .aE (.int .i64))],I:=[.av 11]})] []
theorem afI:h6 P 176 0 [Go.aj.b0,Go.aj.b0,Go.aj.fP] (ab.EK.T ⟨149,false⟩):=oE 0 afH bZ Go.Proofs.Tryz.f176 [] [] (hh _) (Go.aj.k0 (ab.Ri ⟨149,false⟩) fun l a b K bh=>oc (by kernel_rfl) (ab.K1 l a b K bh))
noncomputable def afJ:bD:=b2 (P:=P) b3 [⟨_,m7.n⟩] [(0,{bO:=[(0, .ar),(2, .ar),(3, .ar),(4, .ar),(10, .aE (.int .i64))],I:=[.av 11]})] [(40,{bO:=[(0, .ar),(2, .ar),(3, .ar),(4, .ar),(10, .ar),(11, .aE (.int .i64))],I:=[.av 11]})]
theorem afK:hf P 199 [Go.aj.b0,Go.aj.b0,Go.aj.b0,Go.aj.fP] (ab.D4.T ⟨149,false⟩):=ig afJ bZ Go.Proofs.Tryz.f199 [] [] (hh _) (Go.aj.nb (ab.Qm ⟨149,false⟩) fun l lo hi f K bh=>h8 (by kernel_rfl) (ab.Lg l lo hi f K bh))
noncomputable def afL:bD:=b2 (P:=P) b3 [⟨_,m7.n⟩,⟨_,afK.d⟩] [(0,{bO:=[(0, .ar),(3, .ar),(8, .ar),(9, .ar),(10, .ar),(11, .aE (.int .i64))],I:=[.av 11]}),(2,{bO:=[(0, .ar),(3, .ar),(8, .ar),(9, .ar),(12, .aE (.int .i64))],I:=[.av 11]})] [(100000,{bO:=[(0, .ar),(3, .ar),(8, .ar),(9, .ar),(10, .ar)],I:=[.av 11]})]
theorem afM:hf P 177 [Go.aj.b0,Go.aj.b0,Go.aj.fP] (ab.D5.T ⟨149,false⟩):=ig afL bZ Go.Proofs.Tryz.f177 [] [] (hh _) (Go.aj.k0 (ab.Qn ⟨149,false⟩) fun l a b K bh=>h8 (by kernel_rfl) (ab.Lh l a b K bh))
noncomputable def afN:bD:=b2 (P:=P) b3 [⟨_,m7.n⟩,⟨_,Ti.n⟩,⟨_,Tj.d⟩] [(0,{bO:=[(0, .ar),(1, .ar),(8, .ar),(9, .ar),(10, .ar),(11, .aE (.int .i64))],I:=[.av 11, .cells [.int .u64]]})] [(45,{bO:=[(0, .ar),(1, .ar),(8, .ar),(9, .ar),(10, .ar),(11, .ar),(12, .aE (.int .i64))],I:=[.av 11, .ar]})]
theorem afO:hf P 178 [Go.aj.b0,Go.aj.b0,Go.aj.fP] (ab.zj.T ⟨149,false⟩):=ig afN bZ Go.Proofs.Tryz.f178 [] [] (ab.Qr _) (Go.aj.k0 (ab.Pb ⟨149,false⟩) fun l a b K bh=>h8 (by kernel_rfl) (ab.K2 l a b K bh))
noncomputable def afP:bD:=b2 (P:=P) b3 [⟨_,m7.n⟩] [] []
theorem afQ:h6 P 214 3 [Go.aj.du,Go.aj.b0,Go.aj.b0,Go.aj.fP] (ab.D7.T ⟨149,false⟩):=oE 3 afP bZ Go.Proofs.Tryz.f214 [.tmp 10, .tmp 11] [Go.aj.b0,Go.aj.b0] (hh _) (Go.aj.nb (ab.Qp ⟨149,false⟩) fun l a b s K bh=>oc (by kernel_rfl) (ab.Lm l a b s K bh))
noncomputable def afR:bD:=b2 (P:=P) b3 [⟨_,m7.n⟩,⟨_,afQ.n⟩] [] []
theorem Sw:h6 P 203 4 [Go.aj.du,Go.aj.b0,Go.aj.b0,Go.aj.b0,Go.aj.fP] (ab.EO.T ⟨149,false⟩):=oE 4 afR bZ Go.Proofs.Tryz.f203 [.tmp 12] [Go.aj.b0] (hh _) (Go.aj.Fo (ab.Rk ⟨149,false⟩) fun l a b e s K bh=>oc (by kernel_rfl) (ab.Ln l a b e s K bh))
noncomputable def afS:bD:=b2 (P:=P) b3 [⟨_,m7.n⟩,⟨_,Sw.n⟩] [] []
theorem afT:h6 P 202 2 [Go.aj.du,Go.aj.b0,Go.aj.fP] (ab.CW.T ⟨149,false⟩):=oE 2 afS bZ Go.Proofs.Tryz.f202 [.tmp 8] [Go.aj.b0] (hh _) (Go.aj.k0 (ab.Oi ⟨149,false⟩) fun l a s K bh=>oc (by kernel_rfl) (ab.KZ l a s K bh))
noncomputable def afU:bD:=b2 (P:=P) b3 [⟨_,m7.n⟩,⟨_,afT.n⟩,⟨_,Sw.n⟩] [] [(34,{bO:=[(11, .ar),(13, .aE (.int .i64))],I:=[.cells [.int .i64]]}),(36,{bO:=[(0, .ar),(3, .ar),(11, .ar),(12, .aE (.int .i64)),(13, .aE (.int .i64)),(14, .aE (.int .i64))],I:=[.cells [.int .i64]]})]
theorem afV:pF P 179 [Go.aj.du,Go.aj.b0,Go.aj.b0,Go.aj.fP] (ab.Dz.T ⟨149,false⟩):=AM afU bZ Go.Proofs.Tryz.f179 [.tmp 8, .tmp 9] (cE _) (Go.aj.kZ (ab.Pa ⟨149,false⟩) fun l a b K bh=>cJ (by kernel_rfl) (ab.K8 l a b K bh))
noncomputable def afW:bD:=b2 (P:=P) b3 [⟨_,m7.n⟩] [(0,{bO:=[(0, .ar),(8, .aE (.int .i64)),(9, .aE (.int .i64))],I:=[.av 11]})] []
theorem afX:hf P 180 [Go.aj.b0,Go.aj.b0,Go.aj.fP] (ab.EL.T ⟨149,false⟩):=ig afW bZ Go.Proofs.Tryz.f180 [] [] (hh _) (Go.aj.k0 (ab.Rj ⟨149,false⟩) fun l a b K bh=>h8 (by kernel_rfl) (ab.K4 l a b K bh))
noncomputable def afY:bD:=b2 (P:=P) b3 [⟨_,m7.n⟩] [(0,{bO:=[(0, .ar),(1, .ar),(2, .ar),(3, .ar),(9, .aE (.int .i64)),(10, .aE (.int .i64))],I:=[.av 11]}),(2,{bO:=[(0, .ar),(1, .ar),(2, .ar),(3, .ar),(9, .aE (.int .i64)),(10, .ar)],I:=[.av 11]}),(4,{bO:=[(0, .ar),(1, .ar),(2, .ar),(3, .ar),(9, .ar),(10, .ar),(11, .aE (.int .i64))],I:=[.av 11]}),(6,{bO:=[(0, .ar),(1, .ar),(2, .ar),(3, .ar),(9, .ar),(10, .ar),(12, .aE (.int .i64))],I:=[.av 11]})] [(100000,{bO:=[(0, .ar)],I:=[.av 11]}),(100002,{bO:=[(0, .ar),(1, .ar),(2, .ar),(3, .ar),(9, .aE (.int .i64)),(10, .ar)],I:=[.av 11]}),(65,{bO:=[(0, .ar),(1, .ar),(2, .ar),(3, .ar),(9, .ar),(10, .ar)],I:=[.av 11]})]
theorem afZ:hf P 181 [Go.aj.b0,Go.aj.b0,Go.aj.fP] (ab.Ci.T ⟨149,false⟩):=ig afY bZ Go.Proofs.Tryz.f181 [.tmp 8] [Go.aj.h5] (hh _) (Go.aj.k0 (ab.Nx ⟨149,false⟩) fun l a b K bh=>h8 (by kernel_rfl) (ab.KT l a b K bh))
noncomputable def af0:bD:=b2 (P:=P) b3 [⟨_,m7.n⟩] [(0,{bO:=[(0, .ar),(1, .ar),(4, .ar),(11, .aE (.int .i64)),(12, .aE (.int .i64))],I:=[.av 11]}),(2,{bO:=[(0, .ar),(1, .ar),(4, .ar),(11, .aE (.int .i64)),(12, .ar)],I:=[.av 11]}),(4,{bO:=[(0, .ar),(1, .ar),(4, .ar),(11, .ar),(12, .aE (.int .i64))],I:=[.av 11]})] [(100000,{bO:=[(0, .ar),(11, .aE (.int .i64))],I:=[.av 11]}),(100002,{bO:=[(0, .ar),(1, .ar),(4, .ar),(11, .aE (.int .i64)),(12, .ar)],I:=[.av 11]}),(100004,{bO:=[(0, .ar),(1, .ar),(4, .ar),(11, .ar),(12, .aE (.int .i64))],I:=[.av 11]})]
theorem af1:hf P 182 [Go.aj.b0,Go.aj.b0,Go.aj.b0,Go.aj.fP] (ab.CV.T ⟨149,false⟩):=ig af0 bZ Go.Proofs.Tryz.f182 [.tmp 10] [Go.aj.b0] (hh _) (Go.aj.nb (ab.Oh ⟨149,false⟩) fun l a b p K bh=>h8 (by kernel_rfl) (ab.KY l a b p K bh))
noncomputable def af2:bD:=b2 (P:=P) b3 [⟨_,m7.n⟩] [(0,{bO:=[(0, .ar),(1, .ar),(4, .ar),(12, .aE (.int .i64)),(13, .ar)],I:=[.av 11]}),(2,{bO:=[(0, .ar),(1, .ar),(4, .ar),(12, .ar),(13, .aE (.int .i64))],I:=[.av 11]}),(4,{bO:=[(0, .ar),(1, .ar),(4, .ar),(12, .aE (.int .i64)),(13, .aE (.int .i64))],I:=[.av 11]}),(6,{bO:=[(0, .ar),(1, .ar),(4, .ar),(12, .aE (.int .i64)),(13, .ar)],I:=[.av 11]}),(8,{bO:=[(0, .ar),(1, .ar),(4, .ar),(12, .ar),(13, .aE (.int .i64))],I:=[.av 11]})] [(100000,{bO:=[(0, .ar),(1, .ar),(4, .ar),(12, .aE (.int .i64)),(13, .ar)],I:=[.av 11]}),(100002,{bO:=[(0, .ar),(1, .ar),(4, .ar),(12, .ar),(13, .aE (.int .i64))],I:=[.av 11]}),(100004,{bO:=[(0, .ar),(1, .ar),(13, .aE (.int .i64))],I:=[.av 11]}),(100006,{bO:=[(0, .ar),(1, .ar),(4, .ar),(12, .aE (.int .i64)),(13, .ar)],I:=[.av 11]}),(100008,{bO:=[(0, .ar),(1, .ar),(4, .ar),(12, .ar),(13, .aE (.int .i64))],I:=[.av 11]})]
theorem af3:hf P 183 [Go.aj.b0,Go.aj.b0,Go.aj.b0,Go.aj.fP] (ab.D6.T ⟨149,false⟩):=ig af2 bZ Go.Proofs.Tryz.f183 [.tmp 10, .tmp 11] [Go.aj.b0,Go.aj.h5] (hh _) (Go.aj.nb (ab.Qo ⟨149,false⟩) fun l a b p K bh=>h8 (by kernel_rfl) (ab.Le l a b p K bh))
noncomputable def af4 (n:Nat) (ay:h6 P 143 0 [Go.aj.b0,Go.aj.b0,Go.aj.b0,Go.aj.fP] (ab.kT.T ⟨149,false⟩ n)):bD:=b2 (P:=P) b3 [⟨_,ay.d⟩,⟨_,m7.n⟩,⟨_,afI.n⟩,⟨_,afM.n⟩,⟨_,afO.d⟩,⟨_,afV.n⟩,⟨_,afX.n⟩,⟨_,afZ.n⟩,⟨_,af1.n⟩,⟨_,af3.n⟩] [(0,{bO:=[(0, .ar),(1, .aE (.int .i64)),(2, .aE (.int .i64)),(3, .aE (.int .i64)),(4, .ar),(10, .aE (.bool)),(11, .aE (.bool))],I:=[.av 11]})] [(39,{bO:=[(0, .ar),(1, .ar),(2, .ar),(3, .aE (.int .i64)),(4, .ar),(10, .ar),(11, .ar),(12, .ar)],I:=[.av 11]}),(56,{bO:=[(0, .ar),(1, .ar),(2, .ar),(3, .ar),(4, .ar),(10, .ar),(11, .ar),(12, .ar),(13, .aE (.int .i64)),(14, .aE (.int .i64))],I:=[.av 11]}),(75,{bO:=[(0, .ar),(1, .ar),(2, .ar),(3, .ar),(4, .ar),(10, .ar),(11, .ar),(12, .ar),(13, .ar)],I:=[.av 11]})]
theorem af5 (n:Nat)(ay:h6 P 143 0 [Go.aj.b0,Go.aj.b0,Go.aj.b0,Go.aj.fP] (ab.kT.T ⟨149,false⟩ n)):h6 P 143 0 [Go.aj.b0,Go.aj.b0,Go.aj.b0,Go.aj.fP] (ab.kT.T ⟨149,false⟩ (n+1)):=oE 0 (af4 n ay) bZ Go.Proofs.Tryz.f143 [] [] (ab.DN _ _) (Go.aj.nb (ab.Ib ⟨149,false⟩ (n+1)) fun l a b m K bh=>oc (by kernel_rfl) (ab.Lk n l a b m K bh))
theorem Sx:∀n,h6 P 143 0 [Go.aj.b0,Go.aj.b0,Go.aj.b0,Go.aj.fP] (ab.kT.T ⟨149,false⟩ n)
 |0=>⟨ab.Qt _ ⟨_,Go.Proofs.Tryz.func143,rfl,by kernel_rfl⟩,ab.DN _ _⟩
 |n+1=>af5 n (Sx n)
theorem aeK:h6 P 143 0 [Go.aj.b0,Go.aj.b0,Go.aj.b0,Go.aj.fP] (ab.s3.T ⟨149,false⟩):=⟨ab.Qs (fun n=>(Sx n).s) (ab.Rn _),ab.Rl _⟩
noncomputable def af6:bD:=b2 (P:=P) b3 [⟨_,aeK.d⟩,⟨_,Jf.n⟩,⟨_,m7.n⟩] [] []
theorem af7:h6 P 102 0 [Go.aj.fP] (ab.zw.T ⟨149,false⟩):=oE 0 af6 bZ Go.Proofs.Tryz.f102 [] [] (ab.Rm _) (Go.aj.Fm (ab.Qq ⟨149,false⟩) fun l K bh=>oc (by kernel_rfl) (ab.Lb l K bh))
noncomputable def ahW:bD:=b2 (P:=P) b3 [⟨_,xv.n⟩,⟨_,vb.n⟩] [] []
theorem ahX:cC P 146 [Go.aj.fe] ab.wU.T:=cU ahW bZ Go.Proofs.Tryz.f146 [.cell 2 39] [Go.aj.fe] (cE _) (Go.aj.kZ ab.Og fun s a b K bh=>cJ (by kernel_rfl) (ab.ab7 s a b K bh))
noncomputable def ahY:bD:=b2 (P:=P) b3 [⟨_,E2.n⟩] [] []
theorem Jg:cC P 148 [.struct [] [.int .i64, .int .i64, .int .i64, .int .i64, .int .i64, .int .i64, .int .i64, .int .i64, .bool, .cv .u32, .cv .u32]] ab.DE.T:=cU ahY bZ Go.Proofs.Tryz.f148 [.tmp 2] [Go.aj.h5] (cE _) (Go.aj.gC ab.aa7 fun r K bh=>cJ (by kernel_rfl) (ab.VQ r K bh))
noncomputable def ahZ:bD:=b2 (P:=P) b3 [⟨_,Jg.n⟩] [(0,{bO:=[(0, .ar),(1, .ar),(7, .ar),(8, .aE (.int .i64))]})] []
theorem ah0:pF P 187 [Go.aj.du,Go.aj.fP] (ab.y4.T 148):=AM ahZ bZ Go.Proofs.Tryz.f187 [.tmp 4] (cE _) (Go.aj.gC (ab.Zr 148) fun l K bh=>cJ (by kernel_rfl) (ab.Vn 148 l K bh))
noncomputable def ah1:bD:=b2 (P:=P) ((26,{ty:= .aE (.ee 11),elem:=41,bytes:=120,f_:=[.int .i64, .int .i64, .int .i64, .int .i64, .int .i64, .int .i64, .int .i64, .int .i64, .bool, .cv .u32, .cv .u32],lit:=true,cut:=true})::b3) [⟨_,Jg.n⟩,⟨_,ah0.n⟩] [(0,{bO:=[(0, .ar),(1, .ar),(5, .aE (.int .i64)),(6, .aE (.int .i64))],I:=[.av 11]})] []
theorem ah2:v_ P 147 [Go.aj.fP] (ab.zx.T 148):=akW ah1 (DL (by kernel_rfl) (by kernel_rfl) px) Go.Proofs.Tryz.f147 4 (abH _) (Go.aj.ajy (ab.acD 148) fun l K bh=>cJ (by kernel_rfl) (ab.Vk 148 l K bh))
noncomputable def ah3:bD:=b2 (P:=P) b3 [⟨_,Je.n⟩,⟨_,af7.d⟩,⟨_,ahX.n⟩,⟨_,ah2.n⟩,⟨_,Jg.n⟩] [(0,{bO:=[(3, .ar),(4, .ar),(13, .ar),(14, .ar),(15, .aE (.int .i64))],I:=[.map 8 9, .av 11]})] []
theorem E3:cC P 106 [Go.aj.du] ab.sv.T:=cU ah3 bZ Go.Proofs.Tryz.f106 [.tmp 2] [Go.aj.du] (cE _) (Go.aj.gC ab.Ny fun l K bh=>cJ (by kernel_rfl) (ab.VY l K bh))
noncomputable def alr:bD:=b2 (P:=P) b3 [⟨_,ahT.n⟩,⟨_,Tk.n⟩,⟨_,E3.n⟩] [(0,{bO:=[(1, .ar),(5, .ar),(16, .ar),(17, .ar),(18, .aE (.int .i64))],I:=[.av 11]}),(2,{bO:=[(1, .ar),(5, .ar),(7, .ar),(16, .ar),(17, .ar),(18, .ar),(22, .ar),(23, .ar),(24, .aE (.int .i64))],I:=[.av 11, .av 11]})] []
theorem Ux:cC P 56 [Go.aj.du,Go.aj.du] ab.Ef.T:=cU alr bZ Go.Proofs.Tryz.f56 [.tmp 4] [Go.aj.du] (cE _) (Go.aj.fD ab.acH fun p q K bh=>cJ (by kernel_rfl) (ab.WU p q K bh))
noncomputable def als:bD:=b2 (P:=P) b3 [⟨_,AP.n⟩,⟨_,AQ.n⟩,⟨_,alq.n⟩,⟨_,Ux.n⟩] [] []
theorem Uy:cC P 13 [Go.aj.du,Go.aj.du] ab.Em.T:=cU als bZ Go.Proofs.Tryz.f13 [.tmp 4, .tmp 5] [Go.aj.du,Go.aj.b0] (cE _) (Go.aj.fD ab.acQ fun p q K bh=>cJ (by kernel_rfl) (ab.V2 p q K bh))
noncomputable def ah4:bD:=b2 (P:=P) ((26,{ty:= .aE (.ee 11),elem:=41,bytes:=120,f_:=[.int .i64, .int .i64, .int .i64, .int .i64, .int .i64, .int .i64, .int .i64, .int .i64, .bool, .cv .u32, .cv .u32]})::b3) [] [] []
theorem Tl:qI P 107 [Go.aj.du] ab.DD.T:=FI ah4 (DL (by kernel_rfl) (by kernel_rfl) px) Go.Proofs.Tryz.f107 2 Go.aj.du (yO _) (Go.aj.JJ ab.aa8 fun l K bh=>cJ (by kernel_rfl) (ab.Vo l K bh))
noncomputable def alu:bD:=b2 (P:=P) b3 [⟨_,E3.n⟩,⟨_,Tl.n⟩] [] []
theorem Uz:cC P 58 [Go.aj.du,Go.aj.du] ab.Ec.T:=cU alu bZ Go.Proofs.Tryz.f58 [.tmp 4] [Go.aj.du] (cE _) (Go.aj.fD ab.acE fun p q K bh=>cJ (by kernel_rfl) (ab.WQ p q K bh))
noncomputable def ah5:bD:=b2 (P:=P) b3 [] [(0,{bO:=[(0, .ar),(3, .aE (.int .i64)),(4, .aE (.int .i64))]})] [(7,{bO:=[(0, .ar)]})]
theorem ah6:cC P 163 [.aE (.cv .i64)] ab.ER.T:=cU ah5 bZ Go.Proofs.Tryz.f163 [.tmp 2] [Go.aj.b0] (cE _) (Go.aj.gC ab.ad9 fun a K bh=>cJ (by kernel_rfl) (ab.VP a K bh))
noncomputable def ah7:bD:=b2 (P:=P) b3 [⟨_,ah6.n⟩] [(0,{bO:=[(3, .aE (.int .i64)),(6, .ar),(7, .ar),(8, .aE (.int .i64))]})] []
theorem ah8:cC P 128 [Go.aj.du] ab.Eh.T:=cU ah7 bZ Go.Proofs.Tryz.f128 [.tmp 2] [Go.aj.b0] (cE _) (Go.aj.gC ab.acJ fun p K bh=>cJ (by kernel_rfl) (ab.WR p K bh))
noncomputable def alv:bD:=b2 (P:=P) b3 [⟨_,ah8.n⟩] [] []
theorem UA:cC P 78 [Go.aj.du] ab.Cr.T:=cU alv bZ Go.Proofs.Tryz.f78 [.tmp 2, .tmp 3] [Go.aj.du,Go.aj.b0] (cE _) (Go.aj.gC ab.Yg fun p K bh=>cJ (by kernel_rfl) (ab.VE p K bh))
noncomputable def ah9:bD:=b2 (P:=P) b3 [⟨_,AP.n⟩,⟨_,AQ.n⟩,⟨_,Uz.n⟩,⟨_,UA.n⟩] [] []
theorem ah_:cC P 57 [Go.aj.du,Go.aj.du,Go.aj.fP] (ab.zz.T 58):=cU ah9 bZ Go.Proofs.Tryz.f57 [.tmp 6, .tmp 7] [Go.aj.du,Go.aj.b0] (cE _) (Go.aj.fD (ab.acL 58) fun p q K bh=>cJ (by kernel_rfl) (ab.Vy 58 p q K bh))
noncomputable def alw:bD:=b2 (P:=P) b3 [⟨_,ah_.n⟩] [] []
theorem alx:cC P 15 [Go.aj.du,Go.aj.du] ab.Ej.T:=cU alw bZ Go.Proofs.Tryz.f15 [.tmp 4, .tmp 5] [Go.aj.du,Go.aj.b0] (cE _) (Go.aj.fD ab.acN fun p q K bh=>cJ (by kernel_rfl) (ab.V0 p q K bh))
noncomputable def aia:bD:=b2 (P:=P) b3 [⟨_,Jc.n⟩] [] [(8,{bO:=[(0, .ar),(4, .aE (.int .u64))]})]
theorem aib:cC P 116 [Go.aj.b0] ab.BL.T:=cU aia bZ Go.Proofs.Tryz.f116 [.tmp 2, .tmp 3] [Go.aj.h5,Go.aj.dm] (cE _) (Go.aj.gC ab.WV fun n K bh=>cJ (by kernel_rfl) (ab.WN n K bh))
noncomputable def aly:bD:=b2 (P:=P) b3 [⟨_,aib.n⟩,⟨_,z7.n⟩,⟨_,xv.n⟩] [] []
theorem Ki:cC P 63 [Go.aj.b0] ab.s0.T:=cU aly bZ Go.Proofs.Tryz.f63 [.cell 2 39] [Go.aj.fe] (cE _) (Go.aj.gC ab.Qk fun n K bh=>cJ (by kernel_rfl) (ab.ady n K bh))
noncomputable def aic:bD:=b2 (P:=P) b3 [⟨_,Tk.n⟩,⟨_,E3.n⟩,⟨_,Tl.n⟩] [(0,{bO:=[(3, .ar),(5, .ar),(10, .ar),(11, .aE (.int .i64))],I:=[.ar, .av 11]})] []
theorem aid:cC P 130 [Go.aj.du,Go.aj.fe] ab.CZ.T:=cU aic bZ Go.Proofs.Tryz.f130 [.tmp 4] [Go.aj.du] (cE _) (Go.aj.ajw ab.Zs fun p s a b K bh=>cJ (by kernel_rfl) (ab.Wc p s a b K bh))
noncomputable def aie:bD:=b2 (P:=P) b3 [⟨_,Ki.n⟩,⟨_,aid.n⟩] [] []
theorem aif:cC P 108 [Go.aj.du] ab.Ed.T:=cU aie bZ Go.Proofs.Tryz.f108 [.tmp 2] [Go.aj.du] (cE _) (Go.aj.gC ab.acF fun p K bh=>cJ (by kernel_rfl) (ab.WS p K bh))
noncomputable def alz:bD:=b2 (P:=P) b3 [⟨_,Uz.n⟩,⟨_,aif.n⟩] [] []
theorem UB:cC P 59 [Go.aj.du,Go.aj.du] ab.Ee.T:=cU alz bZ Go.Proofs.Tryz.f59 [.tmp 4] [Go.aj.du] (cE _) (Go.aj.fD ab.acG fun p q K bh=>cJ (by kernel_rfl) (ab.WT p q K bh))
noncomputable def aih:bD:=b2 (P:=P) b3 [⟨_,AP.n⟩,⟨_,AQ.n⟩,⟨_,UB.n⟩,⟨_,UA.n⟩] [] []
theorem aii:cC P 57 [Go.aj.du,Go.aj.du,Go.aj.fP] (ab.zA.T 59):=cU aih bZ Go.Proofs.Tryz.f57 [.tmp 6, .tmp 7] [Go.aj.du,Go.aj.b0] (cE _) (Go.aj.fD (ab.acM 59) fun p q K bh=>cJ (by kernel_rfl) (ab.Vz 59 p q K bh))
noncomputable def alA:bD:=b2 (P:=P) b3 [⟨_,aii.n⟩] [] []
theorem alB:cC P 16 [Go.aj.du,Go.aj.du] ab.Ek.T:=cU alA bZ Go.Proofs.Tryz.f16 [.tmp 4, .tmp 5] [Go.aj.du,Go.aj.b0] (cE _) (Go.aj.fD ab.acO fun p q K bh=>cJ (by kernel_rfl) (ab.V1 p q K bh))
noncomputable def alC:bD:=b2 (P:=P) b3 [⟨_,Ki.n⟩] [] []
theorem alD:cC P 20 [Go.aj.b0] ab.Ei.T:=cU alC bZ Go.Proofs.Tryz.f20 [.tmp 2, .tmp 3] [Go.aj.du,Go.aj.b0] (cE _) (Go.aj.gC ab.acK fun v K bh=>cJ (by kernel_rfl) (ab.VZ v K bh))
theorem aij:cC P 53 [Go.aj.du] ab.y7.T:=⟨ab.zp AP.s ab.aeG,cE _⟩
theorem aik:cC P 54 [Go.aj.du] ab.yU.T:=⟨ab.zp AQ.s ab.ad_,cE _⟩
theorem ail:cC P 63 [Go.aj.b0] ab.zB.T:=⟨ab.zp Ki.s ab.agQ,cE _⟩
theorem af8:cC P 101 [Go.aj.fe] ab.zn.T:=⟨ab.zp E2.s ab.aff,cE _⟩
noncomputable def aim:bD:=b2 (P:=P) b3 [⟨_,xv.n⟩,⟨_,vb.n⟩] [] []
theorem ain:cC P 205 [Go.aj.fe] ab.DZ.T:=cU aim bZ Go.Proofs.Tryz.f205 [.cell 2 39] [Go.aj.fe] (cE _) (Go.aj.kZ ab.acw fun s a b K bh=>cJ (by kernel_rfl) (ab.adB s a b K bh))
noncomputable def aio:bD:=b2 (P:=P) b3 [⟨_,Je.n⟩,⟨_,ain.n⟩] [] []
theorem aip:cC P 189 [Go.aj.fe,Go.aj.fe] ab.D0.T:=cU aio bZ Go.Proofs.Tryz.f189 [.cell 4 39] [Go.aj.fe] (cE _) (Go.aj.rT ab.acx fun s a b t c d K bh=>cJ (by kernel_rfl) (ab.adC s a b t c d K bh))
noncomputable def aiq:bD:=b2 (P:=P) b3 [⟨_,E2.n⟩,⟨_,aip.n⟩] [] []
theorem air:cC P 151 [Go.aj.fe,Go.aj.fe] ab.D3.T:=cU aiq bZ Go.Proofs.Tryz.f151 [.tmp 4] [Go.aj.b0] (cE _) (Go.aj.rT ab.acA fun s a b t c d K bh=>cJ (by kernel_rfl) (ab.adF s a b t c d K bh))
noncomputable def ais:bD:=b2 (P:=P) b3 [⟨_,air.n⟩] [] []
theorem ait:cC P 110 [Go.aj.fe,Go.aj.fe] ab.wV.T:=cU ais bZ Go.Proofs.Tryz.f110 [.tmp 4] [Go.aj.h5] (cE _) (Go.aj.rT ab.Zp fun s a b t c d K bh=>cJ (by kernel_rfl) (ab.aaL s a b t c d K bh))
theorem af9:cC P 110 [Go.aj.fe,Go.aj.fe] ab.y8.T:=⟨ab.zp ait.s ab.aeH,cE _⟩
noncomputable def aiu:bD:=b2 (P:=P) b3 [] [(0,{bO:=[(0, .ar),(2, .aE (.int .i64)),(3, .aE (.int .i64))],I:=[.af .u8]})] []
theorem aiv:hf P 191 [] ab.B_.T:=ig aiu bZ Go.Proofs.Tryz.f191 [] [] (hh _) (Go.aj.Fm ab.X1 fun l K bh=>h8 (by kernel_rfl) (ab.Xv l K bh))
noncomputable def aiw:bD:=b2 (P:=P) b3 [⟨_,qi.d⟩,⟨_,Tb.d⟩,⟨_,aiv.d⟩] [(0,{bO:=[(0, .aE (.cv .u32)),(3, .ar)],I:=[.af .u8],conv:=[(3, .cv .u8)]}),(2,{bO:=[(0, .ar),(3, .ar),(4, .aE (.int .u32)),(15, .aE (.int .i64))],I:=[.af .u8]})] []
theorem aix:cC P 152 [Go.aj.dm] ab.CL.T:=cU aiw bZ Go.Proofs.Tryz.f152 [.tmp 2] [Go.aj.KQ] (cE _) (Go.aj.gC ab.YR fun a K bh=>cJ (by kernel_rfl) (ab.aav a K bh))
noncomputable def aiy:bD:=b2 (P:=P) b3 [⟨_,vb.n⟩,⟨_,Tf.n⟩,⟨_,aix.n⟩] [] [(13,{bO:=[(3, .ar),(4, .aE (.str))],I:=[.ar, .ar]})]
theorem aiz:cC P 111 [Go.aj.fe] ab.Ce.T:=cU aiy bZ Go.Proofs.Tryz.f111 [.tmp 2] [Go.aj.KQ] (cE _) (Go.aj.kZ ab.Ya fun s a b K bh=>cJ (by kernel_rfl) (ab.Za s a b K bh))
noncomputable def Tm:bD:=b2 (P:=P) b3 [] [] []
noncomputable def Tn:hC:=⟨Tm,99999,114,5,109,114,20⟩
theorem af_ (K:R->Prop):sw Tn Go.Proofs.Tryz.f207.ntmps [.tmp 2] (Go.Proofs.Tryz.f207.body.getD .skip) [.d (.int .i64 2)] (ns [.aE .str] K)=ab.Gm K:=by kernel_rfl
theorem aiA:cC P 207 [Go.aj.b0] ab.rj.T:=⟨by
 refine wk (X:=Tn) bZ (Go.Proofs.Tryz.builder Tm 99999 20) (fn:=Go.Proofs.Tryz.f207) (c:=Go.Proofs.Tryz.f207.body.getD .skip) (by kernel_rfl) (by kernel_rfl) (by kernel_rfl) (rvs:=[.tmp 2]) (by kernel_rfl) (ts:=[.aE .str]) (by kernel_rfl) (fun args K a8=> ?_);obtain⟨rfl,a8⟩:=ab.Ic args K a8;rw[af_ K]
 exact ab.Vr K a8,(cE _)⟩
noncomputable def To:bD:=b2 (P:=P) b3 [⟨_,aiA.d⟩] [] []
noncomputable def Tp:hC:=⟨To,99999,114,5,109,114,20⟩
theorem aga (K:R->Prop):sw Tp Go.Proofs.Tryz.f192.ntmps [.tmp 4] (Go.Proofs.Tryz.f192.body.getD .skip) [.d (.int .i64 2), .d (.int .i64 10)] (ns [.aE .str] K)=ab.Gl K:=by kernel_rfl
theorem aiB:cC P 192 [Go.aj.b0,Go.aj.b0] ab.yV.T:=⟨by
 refine wk (X:=Tp) bZ (Go.Proofs.Tryz.builder To 99999 20) (fn:=Go.Proofs.Tryz.f192) (c:=Go.Proofs.Tryz.f192.body.getD .skip) (by kernel_rfl) (by kernel_rfl) (by kernel_rfl) (rvs:=[.tmp 4]) (by kernel_rfl) (ts:=[.aE .str]) (by kernel_rfl) (fun args K a8=> ?_);obtain⟨rfl,a8⟩:=ab.abb args K a8;rw[aga K]
 exact ab.Vp K a8,(cE _)⟩
noncomputable def Tq:bD:=b2 (P:=P) b3 [⟨_,aiB.d⟩] [] []
noncomputable def Tr:hC:=⟨Tq,99999,114,5,109,114,20⟩
theorem agb (K:R->Prop):sw Tr Go.Proofs.Tryz.f153.ntmps [.tmp 2] (Go.Proofs.Tryz.f153.body.getD .skip) [.d (.int .i64 2)] (ns [.aE .str] K)=ab.Lq K:=by kernel_rfl
theorem aiC:cC P 153 [Go.aj.b0] ab.rj.T:=⟨by
 refine wk (X:=Tr) bZ (Go.Proofs.Tryz.builder Tq 99999 20) (fn:=Go.Proofs.Tryz.f153) (c:=Go.Proofs.Tryz.f153.body.getD .skip) (by kernel_rfl) (by kernel_rfl) (by kernel_rfl) (rvs:=[.tmp 2]) (by kernel_rfl) (ts:=[.aE .str]) (by kernel_rfl) (fun args K a8=> ?_);obtain⟨rfl,a8⟩:=ab.Ic args K a8;rw[agb K]
 exact ab.Vt K a8,(cE _)⟩
noncomputable def Ts:bD:=b2 (P:=P) b3 [⟨_,aiC.d⟩] [] []
noncomputable def Tt:hC:=⟨Ts,99999,114,5,109,114,20⟩
theorem agc (K:R->Prop):sw Tt Go.Proofs.Tryz.f112.ntmps [.tmp 2] (Go.Proofs.Tryz.f112.body.getD .skip) [.d (.int .i64 2)] (ns [.aE .str] K)=ab.L8 K:=by kernel_rfl
theorem aiD:cC P 112 [Go.aj.b0] ab.rj.T:=⟨by
 refine wk (X:=Tt) bZ (Go.Proofs.Tryz.builder Ts 99999 20) (fn:=Go.Proofs.Tryz.f112) (c:=Go.Proofs.Tryz.f112.body.getD .skip) (by kernel_rfl) (by kernel_rfl) (by kernel_rfl) (rvs:=[.tmp 2]) (by kernel_rfl) (ts:=[.aE .str]) (by kernel_rfl) (fun args K a8=> ?_);obtain⟨rfl,a8⟩:=ab.Ic args K a8;rw[agc K]
 exact ab.Wd K a8,(cE _)⟩
noncomputable def Tu:bD:=b2 (P:=P) b3 [] [] []
noncomputable def Tv:hC:=⟨Tu,99999,114,5,109,114,20⟩
theorem agd (x s:List Int)(K:R->Prop):sw Tv Go.Proofs.Tryz.f113.ntmps [.tmp 4] (Go.Proofs.Tryz.f113.body.getD .skip) [.d (.av 1 [[.str x]]), .d (.str s)] (ns [.aE .str] K)=ab.Gp x s K:=by kernel_rfl
theorem aiE:cC P 113 [.aE (.ee 1),Go.aj.KQ] ab.zo.T:=⟨by
 refine wk (X:=Tv) bZ (Go.Proofs.Tryz.builder Tu 99999 20) (fn:=Go.Proofs.Tryz.f113) (c:=Go.Proofs.Tryz.f113.body.getD .skip) (by kernel_rfl) (by kernel_rfl) (by kernel_rfl) (rvs:=[.tmp 4]) (by kernel_rfl) (ts:=[.aE .str]) (by kernel_rfl) (fun args K a8=> ?_);obtain⟨x,s,rfl,a8⟩:=ab.aea args K a8;rw[agd x s K]
 exact ab.We x s K a8,(cE _)⟩
noncomputable def UC:bD:=b2 (P:=P) b3 [⟨_,aij.d⟩,⟨_,aik.d⟩,⟨_,ail.d⟩,⟨_,af8.d⟩,⟨_,af9.d⟩,⟨_,aiz.d⟩,⟨_,aiD.d⟩,⟨_,aiE.d⟩] [] []
noncomputable def UD:hC:=⟨UC,6,114,5,109,114,20⟩
theorem aiF (K:R->Prop):sw UD Go.Proofs.Tryz.f60.ntmps [.tmp 4, .tmp 5] (Go.Proofs.Tryz.f60.body.getD .skip) [.d (.av 11 ab.qf), .d (.av 1 ab.zX)] (ns [.aE .str, .aE (.int .i64)] K)=ab.Gn K:=by kernel_rfl
theorem alE:cC P 60 [Go.aj.du, .aE (.ee 1)] ab.yW.T:=⟨by
 refine wk (X:=UD) bZ (Go.Proofs.Tryz.builder UC 6 20) (fn:=Go.Proofs.Tryz.f60) (c:=Go.Proofs.Tryz.f60.body.getD .skip) (by kernel_rfl) (by kernel_rfl) (by kernel_rfl) (rvs:=[.tmp 4, .tmp 5]) (by kernel_rfl) (ts:=[.aE .str, .aE (.int .i64)]) (by kernel_rfl) (fun args K a8=> ?_);obtain⟨rfl,a8⟩:=ab.abc args K a8;rw[aiF K]
 exact ab.VL K a8,(cE _)⟩
noncomputable def alF:bD:=b2 (P:=P) b3 [⟨_,Uy.n⟩,⟨_,alx.n⟩,⟨_,alB.n⟩,⟨_,alD.n⟩,⟨_,alE.n⟩] [] []
theorem alG:cC P 18 [] ab.Cx.T:=cU alF bZ Go.Proofs.Tryz.f18 [.tmp 0] [Go.aj.h5] (cE _) (Go.aj.ajv ab.Yi fun K bh=>cJ (by kernel_rfl) (ab.VC K bh))
noncomputable def alH:bD:=b2 (P:=P) b3 [⟨_,Kh.n⟩,⟨_,qh.n⟩] [] []
theorem Kj:cC P 74 [Go.aj.fe] ab.Cf.T:=cU alH bZ Go.Proofs.Tryz.f74 [.cell 2 39] [Go.aj.fe] (cE _) (Go.aj.kZ ab.Yb fun s a b K bh=>cJ (by kernel_rfl) (ab.ace s a b K bh))
noncomputable def alI:bD:=b2 (P:=P) b3 [⟨_,qh.d⟩] [(0,{bO:=[(0, .ar),(1, .ar),(5, .ar),(6, .aE (.int .i64))],I:=[.af .u32]}),(2,{bO:=[(0, .ar),(1, .ar),(5, .ar),(6, .ar),(7, .aE (.int .u64)),(8, .aE (.int .i64))],I:=[.af .u32]}),(4,{bO:=[(0, .ar),(1, .ar),(5, .ar),(6, .ar),(7, .aE (.int .u64)),(10, .aE (.int .i64))],I:=[.af .u32]})] []
theorem alJ:cC P 75 [Go.aj.dm,Go.aj.dm] ab.CO.T:=cU alI bZ Go.Proofs.Tryz.f75 [.tmp 4] [Go.aj.dm] (cE _) (Go.aj.fD ab.YU fun a b K bh=>cJ (by kernel_rfl) (ab.aaE a b K bh))
noncomputable def alK:bD:=b2 (P:=P) b3 [⟨_,qh.d⟩,⟨_,S9.d⟩] [(0,{bO:=[(1, .ar),(6, .ar),(7, .aE (.int .u64)),(8, .aE (.int .i64))],I:=[.af .u32, .af .u32]})] [(29,{bO:=[(1, .ar),(6, .ar),(8, .ar),(9, .aE (.int .u64))],I:=[.ar, .ar]})]
theorem alL:cC P 77 [Go.aj.dm,Go.aj.dm] ab.CP.T:=cU alK bZ Go.Proofs.Tryz.f77 [.tmp 4, .tmp 5] [Go.aj.dm,Go.aj.b0] (cE _) (Go.aj.fD ab.YV fun a b K bh=>cJ (by kernel_rfl) (ab.aa4 a b K bh))
noncomputable def alM:bD:=b2 (P:=P) b3 [⟨_,Uu.n⟩,⟨_,Kj.n⟩,⟨_,alJ.n⟩,⟨_,Kh.n⟩,⟨_,alL.n⟩] [] []
theorem alN:cC P 36 [Go.aj.fe,Go.aj.fe] ab.xd.T:=cU alM bZ Go.Proofs.Tryz.f36 [.cell 4 39] [Go.aj.fe] (cE _) (Go.aj.rT ab.Ql fun s a b t c d K bh=>cJ (by kernel_rfl) (ab.adI s a b t c d K bh))
noncomputable def aiG:bD:=b2 (P:=P) b3 [] [(0,{bO:=[(2, .ar),(3, .ar),(5, .aE (.int .i64))],I:=[.ar, .ar]})] []
theorem aiH:cC P 119 [.arr 8 (.aE (.int .i64)) [.int .i64, .int .i64, .int .i64, .int .i64, .int .i64, .int .i64, .int .i64, .int .i64], .arr 8 (.aE (.int .i64)) [.int .i64, .int .i64, .int .i64, .int .i64, .int .i64, .int .i64, .int .i64, .int .i64]] ab.Cu.T:=cU aiG bZ Go.Proofs.Tryz.f119 [.tmp 4] [Go.aj.h5] (cE _) (Go.aj.fD ab.Yk fun a b K bh=>cJ (by kernel_rfl) (ab.Vs a b K bh))
noncomputable def aiI:bD:=b2 (P:=P) b3 [⟨_,Kj.n⟩] [] []
theorem aiJ:cC P 120 [Go.aj.fe] ab.Dx.T:=cU aiI bZ Go.Proofs.Tryz.f120 [.tmp 2] [Go.aj.b0] (cE _) (Go.aj.kZ ab.aa1 fun s a b K bh=>cJ (by kernel_rfl) (ab.acf s a b K bh))
noncomputable def alO:bD:=b2 (P:=P) b3 [⟨_,alN.n⟩,⟨_,Kj.n⟩,⟨_,aiH.n⟩,⟨_,aiJ.n⟩] [(0,{bO:=[(0, .ar),(3, .ar),(5, .aE (.int .i64)),(6, .aE (.int .i64))],I:=[.ar]})] [(46,{bO:=[(0, .ar),(3, .ar),(6, .aE (.int .i64)),(8, .ar)],I:=[.av 11, .av 11]})]
theorem UE:cC P 69 [Go.aj.du, .struct [] [.int .i64, .int .i64, .int .i64, .int .i64, .int .i64, .int .i64, .int .i64, .int .i64, .bool, .cv .u32, .cv .u32]] ab.C2.T:=cU alO bZ Go.Proofs.Tryz.f69 [.tmp 4] [Go.aj.du] (cE _) (Go.aj.fD ab.Zx fun p t K bh=>cJ (by kernel_rfl) (ab.Vv p t K bh))
noncomputable def alP:bD:=b2 (P:=P) b3 [⟨_,UE.n⟩] [(0,{bO:=[(1, .ar),(5, .aE (.ee 11)),(6, .aE (.int .i64))]})] []
theorem alQ:cC P 27 [Go.aj.du,Go.aj.du] ab.Eo.T:=cU alP bZ Go.Proofs.Tryz.f27 [.tmp 4] [Go.aj.du] (cE _) (Go.aj.fD ab.acT fun p q K bh=>cJ (by kernel_rfl) (ab.VJ p q K bh))
noncomputable def alR:bD:=b2 (P:=P) b3 [⟨_,UE.n⟩] [(0,{bO:=[(0, .ar),(3, .aE (.ee 11)),(4, .aE (.int .i64))]})] []
theorem UF:cC P 30 [Go.aj.du] ab.Cv.T:=cU alR bZ Go.Proofs.Tryz.f30 [.tmp 2] [Go.aj.du] (cE _) (Go.aj.gC ab.Yl fun p K bh=>cJ (by kernel_rfl) (ab.Vw p K bh))
noncomputable def aiK:bD:=b2 (P:=P) b3 [] [(0,{bO:=[(2, .ar),(3, .ar),(4, .ar),(7, .aE (.int .i64))],I:=[.av 8, .av 8, .av 8]})] []
theorem aiL:cC P 121 [.arr 8 (.aE (.int .i64)) [.int .i64, .int .i64, .int .i64, .int .i64, .int .i64, .int .i64, .int .i64, .int .i64], .arr 8 (.aE (.int .i64)) [.int .i64, .int .i64, .int .i64, .int .i64, .int .i64, .int .i64, .int .i64, .int .i64]] ab.Cw.T:=cU aiK bZ Go.Proofs.Tryz.f121 [.cell 4 36, .tmp 5] [.arr 8 (.aE (.int .i64)) [.int .i64, .int .i64, .int .i64, .int .i64, .int .i64, .int .i64, .int .i64, .int .i64],Go.aj.h5] (cE _) (Go.aj.fD ab.Yj fun a b K bh=>cJ (by kernel_rfl) (ab.V3 a b K bh))
noncomputable def aiM:bD:=b2 (P:=P) b3 [⟨_,z7.n⟩,⟨_,xv.n⟩,⟨_,vb.n⟩,⟨_,Jd.n⟩] [] []
theorem aiN:cC P 122 [Go.aj.fe,Go.aj.fe] ab.D2.T:=cU aiM bZ Go.Proofs.Tryz.f122 [.cell 4 39, .tmp 5] [Go.aj.fe,Go.aj.b0] (cE _) (Go.aj.rT ab.acz fun s a b t c d K bh=>cJ (by kernel_rfl) (ab.adE s a b t c d K bh))
noncomputable def alS:bD:=b2 (P:=P) b3 [⟨_,Ux.n⟩,⟨_,UB.n⟩,⟨_,E3.n⟩,⟨_,aiL.n⟩,⟨_,aiN.n⟩] [(0,{bO:=[(0, .aE (.ee 11)),(1, .ar),(6, .ar)],I:=[.av 11],conv:=[(6, .ee 11)]})] []
theorem alT:cC P 71 [Go.aj.du,Go.aj.du] ab.C5.T:=cU alS bZ Go.Proofs.Tryz.f71 [.tmp 4, .tmp 5] [Go.aj.du,Go.aj.h5] (cE _) (Go.aj.fD ab.Zw fun p q K bh=>cJ (by kernel_rfl) (ab.V8 p q K bh))
noncomputable def alU:bD:=b2 (P:=P) b3 [⟨_,AP.n⟩,⟨_,AQ.n⟩,⟨_,alT.n⟩] [] []
theorem alV:cC P 31 [Go.aj.du,Go.aj.du] ab.Ep.T:=cU alU bZ Go.Proofs.Tryz.f31 [.tmp 4, .tmp 5] [Go.aj.du,Go.aj.b0] (cE _) (Go.aj.fD ab.acS fun p q K bh=>cJ (by kernel_rfl) (ab.VK p q K bh))
noncomputable def alW:bD:=b2 (P:=P) b3 [] [(0,{bO:=[(0, .ar),(1, .ar),(5, .aE (.int .i64))]})] []
theorem alX:cC P 80 [Go.aj.dm,Go.aj.dm] ab.DW.T:=cU alW bZ Go.Proofs.Tryz.f80 [.tmp 4] [Go.aj.h5] (cE _) (Go.aj.fD ab.abL fun a b K bh=>cJ (by kernel_rfl) (ab.YY a b K bh))
noncomputable def alY:bD:=b2 (P:=P) b3 [⟨_,alX.n⟩] [] []
theorem alZ:cC P 39 [Go.aj.fe,Go.aj.fe] ab.Dw.T:=cU alY bZ Go.Proofs.Tryz.f39 [.tmp 4] [Go.aj.h5] (cE _) (Go.aj.rT ab.aa2 fun s a b t c d K bh=>cJ (by kernel_rfl) (ab.acg s a b t c d K bh))
noncomputable def al0:bD:=b2 (P:=P) b3 [⟨_,alZ.n⟩] [(0,{bO:=[(0, .ar),(1, .ar),(5, .aE (.int .i64))]})] []
theorem al1:cC P 14 [Go.aj.du,Go.aj.du] ab.DJ.T:=cU al0 bZ Go.Proofs.Tryz.f14 [.tmp 4] [Go.aj.h5] (cE _) (Go.aj.fD ab.aa_ fun p q K bh=>cJ (by kernel_rfl) (ab.VG p q K bh))
noncomputable def al2:bD:=b2 (P:=P) b3 [] [(0,{bO:=[(0, .ar),(3, .aE (.int .i64))]}),(2,{bO:=[(0, .ar),(3, .ar),(4, .aE (.int .i64))]})] []
theorem al3:cC P 68 [Go.aj.du] ab.C3.T:=cU al2 bZ Go.Proofs.Tryz.f68 [.tmp 2] [Go.aj.h5] (cE _) (Go.aj.gC ab.Zz fun p K bh=>cJ (by kernel_rfl) (ab.VA p K bh))
noncomputable def al4:bD:=b2 (P:=P) b3 [⟨_,al1.n⟩,⟨_,UF.n⟩,⟨_,al3.n⟩] [] []
theorem al5:cC P 32 [Go.aj.du,Go.aj.du] ab.C4.T:=cU al4 bZ Go.Proofs.Tryz.f32 [.tmp 4] [Go.aj.h5] (cE _) (Go.aj.fD ab.Zy fun p q K bh=>cJ (by kernel_rfl) (ab.VB p q K bh))
end Go.Proofs.YtmeonjefiioegaaGreatDoor.S
