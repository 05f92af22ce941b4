/- Helpers for the statements: each function keeps its contract. Condition: none. -/
import Derived.Test.YtmeonjefiioegaaGreatDoorProg
import Derived.Test.YtmeonjefiioegaaGreatDoorB2
section
namespace Go.Proofs
open Go.Shelf Go.RowKit
set_option maxHeartbeats 1000000 in
set_option maxRecDepth 100000 in
theorem Tryz.Zw (b:Nat)(w:World)(bc:w.cell? ⟨b,0,none⟩=some (.pointer (some ⟨b,0,none⟩))):
 Calls Tryz.prog 150 #[.pointer (some ⟨b,0,none⟩)] w fun e w'=>e= .returned (.tuple #[])/\w'=w:=by
 obtain⟨j,aI,_⟩:=Option.map_eq_some_iff.1 (show(Tryz.prog.info? 114).map (·.size)=some 2 by kernel_rfl)
 go_enter Tryz.func150,Tryz.ntmps150
 go_wp2
 rw[Lib.run_neq_ptr_same w _ Tryz.underlying111 aI]
 go_wp2
 go_end0
 exact⟨rfl,rfl⟩
set_option maxHeartbeats 1000000 in
set_option maxRecDepth 100000 in
theorem Tryz.Yg (b:Nat)(w:World)(bc:w.cell? ⟨b,0,none⟩=some (.pointer none))(Ui:w.shape? b=some (114,2))(eo:w.frozen? ⟨b,0,none⟩=false):
 Calls Tryz.prog 150 #[.pointer (some ⟨b,0,none⟩)] w fun e w'=>e= .returned (.tuple #[])/\w'=w.setCell ⟨b,0,none⟩ (.pointer (some ⟨b,0,none⟩)):=by
 obtain⟨j,aI,akK⟩:=Option.map_eq_some_iff.1 (show(Tryz.prog.info? 114).map (·.size)=some 2 by kernel_rfl)
 go_enter Tryz.func150,Tryz.ntmps150
 go_wp2
 rw[Lib.run_to_unsafe w ⟨b,0,none⟩ Tryz.underlying111 Tryz.underlying181 aI (by rw[akK];decide) Ui (Nat.zero_lt_succ 1)];simp only[Result.andThen];rw[Oper.upon_value]
 go_wp2
 rw[run_callFunc_extern Tryz.func188 (by kernel_rfl) (by kernel_rfl) (by kernel_rfl) (e:=Extern.AbiNoEscape.same) (by kernel_rfl)];rw[Lib.run_noEscape];simp only[Result.andThen];rw[Oper.upon_value]
 go_wp2
 rw[Lib.run_from_unsafe w ⟨b,0,none⟩ Tryz.underlying181 Tryz.underlying111 aI Ui (by kernel_rfl)];simp only[Result.andThen];rw[Oper.upon_value]
 go_wp2
 go_end0
 exact⟨rfl,rfl⟩
set_option maxHeartbeats 2000000 in
set_option maxRecDepth 100000 in
theorem Tryz.ac4 (b:Nat)(ft:List Value)(s:ByteArray)(w:World)(N:Nat->Prop)(h:lF 114 5 b ft w N)(hlen:ft.length+s.size<=140737488355328):
 Calls Tryz.prog 109 #[.pointer (some ⟨b,0,none⟩), .string s] w fun r w'=>r= .returned (.tuple #[.int .i64 s.size, .nilIface])/\lF 114 5 b (ft++Lib.strCells s) w' (fun x=>N x\/w.heap.size<=x)/\j4 N w w':=by
 obtain⟨p,v,aE,e9,hM,ag,e7,dg⟩:=h;obtain⟨i0,hi,z7,JH,m7⟩:=info_parts (show(Tryz.prog.info? 5).map (fun i=>(i.zero,i.size,i.bytes))=some (some (.int .u8 0),1,1) by kernel_rfl)
 go_enter Tryz.func109,Tryz.ntmps109
 go_wp2_with (go_at_call 150;refine(acn Tryz.Zw Tryz.Yg aE ag e7 dg).mono ?_)
 rintro r w1 ⟨rfl,tk,R5,lS⟩;have UQ:w1.cell? ⟨b,0,none⟩=some (.pointer (some ⟨b,0,none⟩)):=by rw[Lib.cell_of_heap tk];rfl
 have e3:w1.cell? ⟨b,1,none⟩=some v:=by rw[Lib.cell_of_heap tk];rfl
 go_wp2_with (at_builtin;refine aaL rfl _ _ 112 9 rfl 5 i0 Tryz.underlying112 Tryz.underlying9 hi z7 JH m7 _ _ _ rfl R5 s rfl hlen ?_)
 intro c6 db II uP aeM;have bG:b<w1.heap.size:=(aqV.1 tk).1
 have ep:db.heap[b]? =some (.cells #[.pointer (some ⟨b,0,none⟩),v] 114 (0,0)):=by
  rw[uP.block b bG (fun e=>dg e.symm)];exact tk
 have d0:db.cell? ⟨b,0,none⟩=some (.pointer (some ⟨b,0,none⟩)):=by rw[Lib.cell_of_heap ep];rfl
 have d1:db.cell? ⟨b,1,none⟩=some v:=by rw[Lib.cell_of_heap ep];rfl
 have f1:db.frozen? ⟨b,1,none⟩=false:=Lib.frozen_of_heap ep 1;have SR:c6.ownBlock≠some b:=Lib.ownBlock_ne II ep (by decide)
 obtain⟨Gk,n',cap,rfl⟩:∃Gk n' cap,c6= .slice Gk n' cap:=by
  rcases II.2 with⟨aP,_⟩|⟨g,cap,cur,aP,_⟩
  ·exact⟨_,_,_,aP⟩
  ·exact⟨_,_,_,aP⟩
 go_wp2
 go_ret2
 have s9:db.grownBy (db.setCell ⟨b,1,none⟩ (.slice Gk n' cap)) (some b):=by
  refine⟨rfl,rfl,rfl,by simp[World.setCell],fun k _ ae=> ?_⟩;have:b≠k:=fun e=>ae (by rw[e]);simp[World.setCell,aqH,this]
 refine⟨rfl,⟨.pointer (some ⟨b,0,none⟩), .slice Gk n' cap, .inr rfl, .inl e9,fun g bh=> ?_,by simp[World.setCell,aqH,ep], ?_,SR⟩, ?_⟩
 ·rcases aeM g bh with bh|bh
  ·exact .inl (hM g bh)
  ·exact .inr (aoS lS.size bh)
 ·rw[ao0,Lib.strCells_length];exact II.kept s9 (.inr SR)
 ·refine⟨s9.os.trans (uP.os.trans lS.os),s9.tape.trans (uP.tape.trans lS.tape),s9.output.trans (uP.output.trans lS.output),aoS lS.size (aoS uP.size s9.size),fun k ae fM=> ?_⟩;have U:some k≠some b:=fun e=>fM (by cases e;exact e9);have aa:some k≠v.ownBlock:=fun e=>fM (hM k e.symm);rw[s9.block k (aoV ae (aoS lS.size uP.size)) U,uP.block k (aoV ae lS.size) aa,lS.block k ae U]
set_option maxHeartbeats 1000000 in
set_option maxRecDepth 100000 in
theorem Tryz.abi (b:Nat)(l:List UInt8)(w:World)(N:Nat->Prop)(h:lF 114 5 b (Lib.byteCells l) w N)(bc:l≠[]):
 Calls Tryz.prog 114 #[.pointer (some ⟨b,0,none⟩)] w fun r w'=>r= .returned (.string ⟨l.toArray⟩)/\j4 N w w':=by
 obtain⟨p,v,aE,e9,hM,tk,e7,dg⟩:=h;have pj:l.length≠0:=by simpa using bc
 rw[Lib.byteCells_length]at e7
 obtain⟨g,cap,cur,rfl,bh,qc,pq,j1⟩:∃g cap cur,v= .slice (some ⟨g,0,none⟩) l.length cap/\w.heap[g]? =some (.cells cur 5 (0,0))/\l.length<=cap/\cap<=maxLen/\cur.size=cap*1:=by
  rcases e7.2 with⟨_,bq⟩|⟨g,cap,cur,aP,_,dC,dD,dR,la,_⟩
  ·exact absurd bq pj
  ·exact⟨g,cap,cur,aP,dC,dD,dR,la⟩
 have qo:w.drew.heap[b]? =some (.cells #[p, .slice (some ⟨g,0,none⟩) l.length cap] 114 (0,0)):=tk;have pd:w.drew.heap[g]? =some (.cells cur 5 (0,0)):=bh;have e3:w.drew.cell? ⟨b,1,none⟩=some (.slice (some ⟨g,0,none⟩) l.length cap):=by rw[Lib.cell_of_heap qo];rfl
 have aob:(Builtin.unsafeSliceData_ #[112] 160 #[.slice (some ⟨g,0,none⟩) l.length cap]).run Tryz.prog w.drew= .ok (.pointer (some ⟨g,0,none⟩)) w.drew:=
  Lib.run_unsafeSliceData_row _ _ _ _ _ _ (by omega)
 have aoc:(Builtin.unsafeString_ #[160,3] 9 #[.pointer (some ⟨g,0,none⟩), .int .i64 l.length]).run Tryz.prog w.drew= .ok (.string ⟨l.toArray⟩) (w.drew.freeze ⟨g,0,none⟩ l.length):=by
  refine Lib.run_unsafeString_row w.drew 160 3 9 5 Tryz.underlying160 (by kernel_rfl) g cur.size (by simp[World.shape?,pd]) l bc (by omega) (by unfold maxLen at pq;omega) fun j x ai=> ?_;exact e7.cells (g:=g) rfl j (.int .u8 x.toNat) (by simp[Lib.byteCells,ai])
 have cx:j4 N w (w.drew.freeze ⟨g,0,none⟩ l.length):=by
  unfold World.freeze
  have akL:∀k,¬N k->g≠k:=fun k ae e=>ae (e▸hM g rfl)
  split
  ·exact⟨rfl,rfl,rfl,aoE _,fun _ _ _=>rfl⟩
  ·refine⟨rfl,rfl,rfl,by simp,fun k ae fM=> ?_⟩;simp[aqH,akL k fM];rfl
 have mixed:Tryz.prog.follows .mixedOrders=true:=by kernel_rfl
 go_enter Tryz.func114,Tryz.ntmps114
 go_wp2
 go_region_o
 all_goals (go_wp2;go_ret;exact⟨rfl,cx⟩)
theorem Tryz.builder (E:al.bw)(β fuel:Nat):al.zC Tryz.prog ⟨E,β,114,5,109,114,fuel⟩where
 write:=Tryz.ac4
 read:=Tryz.abi
 zero:=Tryz.zeroValue114
 TP:=⟨_,Tryz.func109,rfl,by kernel_rfl⟩
 TQ:=⟨_,Tryz.func114,rfl,by kernel_rfl⟩
end Go.Proofs
end
open Go Go.al
set_option maxRecDepth 1000000
namespace Go.Proofs.YtmeonjefiioegaaGreatDoor.S
noncomputable abbrev P:Program:=Go.Proofs.Tryz.prog
def b1:List (Nat×b7):=[(1,{ty:= .aB (.other)}),
(2,{ty:= .aB (.int .i64)}),
(3,{ty:= .aB (.int .i64)}),
(4,{ty:= .aB (.bool)}),
(5,{ty:= .aB (.int .u8)}),
(9,{ty:= .aB (.str)}),
(12,{ty:= .aB (.int .u64)}),
(22,{ty:= .aB (.cu .i64),elem:=3,bytes:=8,fz:=[.int .i64],lit:=true}),
(23,{ty:= .aB (.other)}),
(25,{ty:= .aB (.dB 11),elem:=41,bytes:=120,fz:=[.int .i64, .int .i64, .int .i64, .int .i64, .int .i64, .int .i64, .int .i64, .int .i64, .bool, .cu .u32, .cu .u32],lit:=true}),
(26,{ty:= .aB (.dB 11),elem:=41,bytes:=120,fz:=[.int .i64, .int .i64, .int .i64, .int .i64, .int .i64, .int .i64, .int .i64, .int .i64, .bool, .cu .u32, .cu .u32],lit:=true}),
(28,{ty:= .aB (.int .i64)}),
(36,{ty:= .arr 8 (.aB (.int .i64)) [.int .i64, .int .i64, .int .i64, .int .i64, .int .i64, .int .i64, .int .i64, .int .i64]}),
(37,{ty:= .aB (.cu .u32),elem:=84,bytes:=4,fz:=[.int .u32],lit:=true}),
(39,{ty:= .struct [(0,1, .aB (.bool)),(1,1, .aB (.cu .u32)),(2,1, .aB (.cu .u32))] [.bool, .cu .u32, .cu .u32]}),
(41,{ty:= .struct [(0,8, .arr 8 (.aB (.int .i64)) [.int .i64, .int .i64, .int .i64, .int .i64, .int .i64, .int .i64, .int .i64, .int .i64]),(8,3, .struct [(0,1, .aB (.bool)),(1,1, .aB (.cu .u32)),(2,1, .aB (.cu .u32))] [.bool, .cu .u32, .cu .u32])] [.int .i64, .int .i64, .int .i64, .int .i64, .int .i64, .int .i64, .int .i64, .int .i64, .bool, .cu .u32, .cu .u32]}),
(49,{ty:= .aB (.dB 1),elem:=26,bytes:=24,fz:=[.dB 11],lit:=true}),
(54,{ty:= .aB (.other)}),
(75,{ty:= .struct [(0,1, .aB (.cu .i64)),(1,1, .aB (.int .i64)),(2,1, .aB (.int .i64))] [.cu .i64, .int .i64, .int .i64]}),
(81,{ty:= .aB (.dB 1),elem:=9,bytes:=16,fz:=[.str],lit:=true}),
(84,{ty:= .aB (.int .u32)}),
(101,{ty:= .aB (.other),mp:=some (8,36,39)}),
(102,{ty:= .aB (.dB 8),elem:=36,bytes:=64,fz:=[.int .i64, .int .i64, .int .i64, .int .i64, .int .i64, .int .i64, .int .i64, .int .i64],lit:=true}),
(106,{ty:= .aB (.other)}),
(108,{ty:= .struct [(0,1, .aB (.bool))] [.bool]}),
(112,{ty:= .aB (.cu .u8),elem:=5,bytes:=1,fz:=[.int .u8],lit:=true}),
(114,{ty:= .struct [(0,1, .aB (.other)),(1,1, .aB (.cu .u8))] [.other, .cu .u8]}),
(124,{ty:= .aB (.int .u64)}),
(125,{ty:= .aB (.int .u64)}),
(129,{ty:= .struct [(0,1, .aB (.bool))] [.bool]}),
(131,{ty:= .struct [(0,1, .aB (.cu .u32)),(1,1, .aB (.cu .u32))] [.cu .u32, .cu .u32]}),
(133,{ty:= .struct [(0,1, .struct [(0,1, .aB (.bool))] [.bool]),(1,2, .struct [(0,1, .aB (.cu .u32)),(1,1, .aB (.cu .u32))] [.cu .u32, .cu .u32])] [.bool, .cu .u32, .cu .u32]}),
(135,{ty:= .aB (.dB 1),elem:=25,bytes:=24,fz:=[.dB 11],lit:=true}),
(152,{ty:= .aB (.other),mp:=some (8,36,3)}),
(155,{ty:= .aB (.other)}),
(157,{ty:= .struct [(0,1, .aB (.int .i64))] [.int .i64]}),
(172,{ty:= .aB (.int .i64)}),
(189,{ty:= .aB (.int .u64)}),
(193,{ty:= .aB (.other)}),
(196,{ty:= .arr 24 (.aB (.int .u8)) [.int .u8, .int .u8, .int .u8, .int .u8, .int .u8, .int .u8, .int .u8, .int .u8, .int .u8, .int .u8, .int .u8, .int .u8, .int .u8, .int .u8, .int .u8, .int .u8, .int .u8, .int .u8, .int .u8, .int .u8, .int .u8, .int .u8, .int .u8, .int .u8]}),
(202,{ty:= .aB (.other)})]
theorem kA:Se P b1=true:=by kernel_rfl
theorem pA:P.follows .mixedOrders=true:=by kernel_rfl
theorem bV {L:r1 P}{h m:List (Nat×Head)}(aW:wS (rq L)=true:=by kernel_rfl):gA P (b0 b1 L h m):=DJ kA aW pA
noncomputable def akM:bw:=b0 (P:=P) b1 [] [] []
theorem akN:vK P 11 [.aB (.cu .i64)] ab.Dk.T:=akA akM bV Go.Proofs.Tryz.f11 2 (ys _) (Go.al.J9 ab.aaH fun l K bd=>cB (by kernel_rfl) (ab.acj l K bd))
noncomputable def akO:bw:=b0 (P:=P) b1 [] [] []
theorem akP:gW P 99 [] ab.Dl.T:=h6 akO bV Go.Proofs.Tryz.f99 [.tmp 2] [Go.al.bT] (gZ _) (Go.al.k3 ab.aaI fun l a s K bd=>hZ (by kernel_rfl) (ab.V1 l a s K bd))
noncomputable def akQ:bw:=b0 (P:=P) b1 [⟨_,akP.d⟩] [] []
theorem Ax:gW P 52 [Go.al.bT] ab.EI.T:=h6 akQ bV Go.Proofs.Tryz.f52 [.tmp 4] [Go.al.bT] (gZ _) (Go.al.nc ab.adR fun l a s n K bd=>hZ (by kernel_rfl) (ab.WG l a s n K bd))
noncomputable def akR:bw:=b0 (P:=P) b1 [⟨_,Ax.d⟩] [] []
theorem Uj:gW P 43 [Go.al.bT,Go.al.bT] ab.B8.T:=h6 akR bV Go.Proofs.Tryz.f43 [.tmp 6] [Go.al.bT] (gZ _) (Go.al.FN ab.X7 fun l a s x y K bd=>hZ (by kernel_rfl) (ab.VO l a s x y K bd))
noncomputable def agM:bw:=b0 (P:=P) b1 [] [(0,{bN:=[(0, .ao),(3, .aB (.int .i64))]})] []
theorem qk:qG P 115 [Go.al.dk] ab.B3.T:=FL agM bV Go.Proofs.Tryz.f115 2 Go.al.dk (ys _) (Go.al.J9 ab.XW fun a K bd=>cB (by kernel_rfl) (ab.YU a K bd))
noncomputable def akS:bw:=b0 (P:=P) b1 [⟨_,qk.d⟩] [] []
theorem akT:cr P 61 [Go.al.bT] ab.Bs.T:=cM akS bV Go.Proofs.Tryz.f61 [.tmp 2, .tmp 3] [Go.al.dk,Go.al.bT] (ct _) (Go.al.gl ab.Wh fun n K bd=>cB (by kernel_rfl) (ab.WN n K bd))
noncomputable def akU:bw:=b0 (P:=P) b1 [⟨_,qk.d⟩] [(0,{bN:=[(0, .ao),(1, .ao),(5, .ao),(6, .aB (.int .u64)),(7, .aB (.int .i64))],I:=[.ad .u32]})] [(24,{bN:=[(0, .ao),(1, .ao),(5, .ao),(6, .aB (.int .u64)),(7, .ao)],I:=[.ao]}),(35,{bN:=[(0, .ao),(1, .ao),(5, .ao),(6, .aB (.int .u64)),(7, .ao)],I:=[.ao]})]
theorem Uk:cr P 62 [Go.al.dk,Go.al.dk] ab.CD.T:=cM akU bV Go.Proofs.Tryz.f62 [.tmp 4] [Go.al.dk] (ct _) (Go.al.e8 ab.YN fun a b K bd=>cB (by kernel_rfl) (ab.aaz a b K bd))
noncomputable def akV:bw:=b0 (P:=P) b1 [⟨_,akT.n⟩,⟨_,Uk.n⟩] [] []
theorem Kc:cr P 19 [Go.al.bT] ab.sU.T:=cM akV bV Go.Proofs.Tryz.f19 [.cell 2 39] [Go.al.e4] (ct _) (Go.al.gl ab.P8 fun n K bd=>cB (by kernel_rfl) (ab.adN n K bd))
noncomputable def agN:bw:=b0 (P:=P) b1 [⟨_,qk.d⟩] [(0,{bN:=[(0, .ao),(1, .ao),(5, .aB (.int .i64))],I:=[.ao, .ao]})] []
theorem SS:cr P 127 [Go.al.dk,Go.al.dk] ab.CC.T:=cM agN bV Go.Proofs.Tryz.f127 [.tmp 4] [Go.al.bT] (ct _) (Go.al.e8 ab.YM fun a b K bd=>cB (by kernel_rfl) (ab.aay a b K bd))
noncomputable def agO:bw:=b0 (P:=P) b1 [⟨_,qk.d⟩] [(0,{bN:=[(0, .ao),(1, .ao),(6, .ao),(7, .aB (.int .u64)),(8, .aB (.int .i64))],I:=[.ad .u32]})] []
theorem agP:cr P 159 [Go.al.dk, .aB (.int .u32)] ab.BM.T:=cM agO bV Go.Proofs.Tryz.f159 [.tmp 4, .tmp 5] [Go.al.dk, .aB (.int .u32)] (ct _) (Go.al.e8 ab.Xg fun a d K bd=>cB (by kernel_rfl) (ab.XY a d K bd))
noncomputable def agQ:bw:=b0 (P:=P) b1 [] [(0,{bN:=[(0, .ao),(1, .ao),(5, .ao),(6, .aB (.int .u64)),(7, .aB (.int .i64))],I:=[.ad .u32]})] []
theorem agR:qG P 160 [Go.al.dk,Go.al.bT] ab.BN.T:=FL agQ bV Go.Proofs.Tryz.f160 4 Go.al.dk (ys _) (Go.al.Ue ab.Xh fun a k K bd=>cB (by kernel_rfl) (ab.X9 a k K bd))
noncomputable def agS:bw:=b0 (P:=P) b1 [] [(0,{bN:=[(0, .ao),(1, .ao),(2, .ao),(7, .ao),(9, .aB (.int .u64)),(10, .aB (.int .u64))],I:=[.ao]}),(2,{bN:=[(0, .ao),(1, .ao),(2, .ao),(7, .ao),(9, .ao),(11, .aB (.int .u64)),(12, .aB (.int .u64)),(13, .aB (.int .i64))],I:=[.ad .u32]}),(4,{bN:=[(0, .ao),(1, .ao),(2, .ao),(7, .ao),(9, .ao),(12, .aB (.int .u64)),(17, .aB (.int .i64))],I:=[.ad .u32]})] [(100000,{bN:=[(0, .ao),(1, .ao),(2, .ao),(7, .ao),(9, .aB (.int .u64))],I:=[.ao]}),(102,{bN:=[(0, .ao),(1, .ao),(2, .ao),(7, .ao),(9, .ao),(11, .ao),(13, .ao),(14, .aB (.int .u64))],I:=[.ao]}),(127,{bN:=[(0, .ao),(1, .ao),(2, .ao),(7, .ao),(9, .ao),(11, .aB (.int .u64)),(12, .ao),(13, .ao),(15, .ao),(16, .aB (.int .u64))],I:=[.ao]}),(159,{bN:=[(0, .ao),(1, .ao),(2, .ao),(7, .ao),(9, .ao),(17, .ao),(18, .aB (.int .u64))],I:=[.ao]})]
theorem agT:gW P 161 [Go.al.dk,Go.al.bT] ab.BO.T:=h6 agS bV Go.Proofs.Tryz.f161 [.tmp 6] [.aB (.int .u32)] (gZ _) (Go.al.k3 ab.Xi fun u v j K bd=>hZ (by kernel_rfl) (ab.XZ u v j K bd))
noncomputable def agU:bw:=b0 (P:=P) b1 [⟨_,qk.d⟩] [(0,{bN:=[(0, .ao),(1, .ao),(5, .ao),(6, .aB (.int .i64))],I:=[.ad .u32]})] [(26,{bN:=[(0, .ao),(1, .ao),(5, .ao),(6, .ao),(7, .aB (.int .u64))],I:=[.ao]})]
theorem agV:cr P 162 [Go.al.dk,Go.al.bT] ab.Bt.T:=cM agU bV Go.Proofs.Tryz.f162 [.tmp 4] [Go.al.dk] (ct _) (Go.al.e8 ab.Wi fun a k K bd=>cB (by kernel_rfl) (ab.WO a k K bd))
noncomputable def agW:bw:=b0 (P:=P) b1 [⟨_,qk.n⟩,⟨_,SS.n⟩,⟨_,agP.n⟩,⟨_,agR.n⟩,⟨_,agT.d⟩,⟨_,agV.n⟩] [(0,{bN:=[(0, .ao),(1, .ao),(9, .aB (.int .i64))],I:=[.ao, .ao]}),(2,{bN:=[(9, .ao),(10, .ao),(11, .aB (.cu .u32)),(12, .ao),(13, .aB (.int .i64))],I:=[.ao, .ao, .ad .u32, .ao, .ao, .ad .u32],conv:=[(11, .other)]})] []
theorem SU:cr P 126 [Go.al.dk,Go.al.dk] ab.By.T:=cM agW bV Go.Proofs.Tryz.f126 [.tmp 4, .tmp 5, .tmp 6] [Go.al.dk,Go.al.dk,Go.al.bT] (ct _) (Go.al.e8 ab.WB fun a b K bd=>cB (by kernel_rfl) (ab.WD a b K bd))
noncomputable def agX:bw:=b0 (P:=P) b1 [⟨_,qk.n⟩,⟨_,SU.n⟩] [(0,{bN:=[(0, .aB (.cu .u32)),(1, .aB (.cu .u32))],I:=[.ao, .ao],conv:=[(0, .other),(1, .other)]})] []
theorem agY:cr P 125 [Go.al.dk,Go.al.dk] ab.CG.T:=cM agX bV Go.Proofs.Tryz.f125 [.tmp 4] [Go.al.dk] (ct _) (Go.al.e8 ab.YQ fun a b K bd=>cB (by kernel_rfl) (ab.Y0 a b K bd))
noncomputable def akW:bw:=b0 (P:=P) b1 [⟨_,agY.n⟩,⟨_,SU.n⟩] [] []
theorem FO:cr P 76 [Go.al.iy,Go.al.dk,Go.al.dk] ab.CK.T:=cM akW bV Go.Proofs.Tryz.f76 [.cell 6 39] [Go.al.e4] (ct _) (Go.al.kx ab.Zl fun s a b K bd=>cB (by kernel_rfl) (ab.Y7 s a b K bd))
noncomputable def akX:bw:=b0 (P:=P) b1 [⟨_,Kc.n⟩,⟨_,FO.n⟩] [] []
theorem akY:cr P 89 [Go.al.bT,Go.al.bT] ab.DW.T:=cM akX bV Go.Proofs.Tryz.f89 [.cell 4 39, .tmp 5] [Go.al.e4,Go.al.bT] (ct _) (Go.al.e8 ab.acD fun n d K bd=>cB (by kernel_rfl) (ab.adO n d K bd))
noncomputable def akZ:bw:=b0 (P:=P) b1 [⟨_,Uj.n⟩,⟨_,akY.n⟩] [] []
theorem Ul:gW P 44 [] ab.Dp.T:=h6 akZ bV Go.Proofs.Tryz.f44 [.cell 2 39] [Go.al.e4] (gZ _) (Go.al.k3 ab.aa4 fun l a s K bd=>hZ (by kernel_rfl) (ab.V2 l a s K bd))
noncomputable def ak0:bw:=b0 (P:=P) b1 [⟨_,Ax.d⟩] [] []
theorem Um:gW P 45 [.aB (.cu .i64)] ab.CH.T:=h6 ak0 bV Go.Proofs.Tryz.f45 [.tmp 4] [Go.al.bT] (gZ _) (Go.al.nc ab.Y8 fun l a s m K bd=>hZ (by kernel_rfl) (ab.VX l a s m K bd))
noncomputable def ak1:bw:=b0 (P:=P) b1 [⟨_,Um.d⟩,⟨_,Ax.d⟩] [(0,{bN:=[(0, .ao),(3, .ao),(4, .aB (.int .i64))],I:=[.cells [.cu .i64, .int .i64, .int .i64], .ad .u32],conv:=[(3, .cu .u32)]})] []
theorem ak2:gW P 90 [] ab.B4.T:=h6 ak1 bV Go.Proofs.Tryz.f90 [.tmp 2] [Go.al.dk] (gZ _) (Go.al.k3 ab.X1 fun l a s K bd=>hZ (by kernel_rfl) (ab.VN l a s K bd))
noncomputable def ak3:bw:=b0 (P:=P) b1 [⟨_,Uj.n⟩,⟨_,Ul.n⟩,⟨_,Ax.n⟩,⟨_,ak2.n⟩] [] []
theorem ak4:gW P 46 [] ab.B9.T:=h6 ak3 bV Go.Proofs.Tryz.f46 [.cell 2 39] [Go.al.e4] (gZ _) (Go.al.k3 ab.X8 fun l a s K bd=>hZ (by kernel_rfl) (ab.VP l a s K bd))
noncomputable def ak5:bw:=b0 (P:=P) b1 [⟨_,Ul.n⟩,⟨_,Um.n⟩,⟨_,ak4.n⟩,⟨_,Ax.n⟩] [(0,{bN:=[(0, .ao),(1, .ao),(7, .ao),(8, .aB (.int .i64))],I:=[.cells [.cu .i64, .int .i64, .int .i64], .ar 11],conv:=[(7, .dB 11)]}),(2,{bN:=[(0, .ao),(1, .ao),(7, .ao),(8, .ao),(9, .ao),(10, .aB (.int .i64))],I:=[.cells [.cu .i64, .int .i64, .int .i64], .ar 11, .ar 11]})] [(24,{bN:=[(0, .ao),(1, .ao),(7, .ao),(8, .ao),(9, .ao)],I:=[.cells [.cu .i64, .int .i64, .int .i64], .ar 11, .ar 11]})]
theorem ak6:gW P 12 [Go.al.bT,Go.al.bT] ab.CR.T:=h6 ak5 bV Go.Proofs.Tryz.f12 [.tmp 6] [Go.al.c_] (gZ _) (Go.al.FN ab.Zq fun l a s v n K bd=>hZ (by kernel_rfl) (ab.VY l a s v n K bd))
noncomputable def ak7:bw:=b0 (P:=P) b1 [] [(0,{bN:=[(0, .ao),(1, .ao),(5, .aB (.int .i64))]})] []
theorem ak8:cr P 80 [Go.al.dk,Go.al.dk] ab.DU.T:=cM ak7 bV Go.Proofs.Tryz.f80 [.tmp 4] [Go.al.iy] (ct _) (Go.al.e8 ab.abP fun a b K bd=>cB (by kernel_rfl) (ab.YS a b K bd))
noncomputable def ak9:bw:=b0 (P:=P) b1 [⟨_,ak8.n⟩] [] []
theorem ak_:cr P 39 [Go.al.e4,Go.al.e4] ab.Dm.T:=cM ak9 bV Go.Proofs.Tryz.f39 [.tmp 4] [Go.al.iy] (ct _) (Go.al.r2 ab.aa3 fun s a b t c d K bd=>cB (by kernel_rfl) (ab.aci s a b t c d K bd))
noncomputable def ala:bw:=b0 (P:=P) b1 [⟨_,ak_.n⟩] [(0,{bN:=[(0, .ao),(1, .ao),(5, .aB (.int .i64))]})] []
theorem Un:cr P 14 [Go.al.c_,Go.al.c_] ab.DE.T:=cM ala bV Go.Proofs.Tryz.f14 [.tmp 4] [Go.al.iy] (ct _) (Go.al.e8 ab.abc fun p q K bd=>cB (by kernel_rfl) (ab.Vx p q K bd))
noncomputable def alb:bw:=b0 (P:=P) b1 [] [(0,{bN:=[(7, .ao),(8, .ao),(9, .aB (.int .i64))]}),(2,{bN:=[(7, .ao),(8, .ao),(9, .ao),(14, .ao),(15, .aB (.int .i64))],I:=[.ao]})] []
theorem Ay:cr P 53 [Go.al.c_] ab.wR.T:=cM alb bV Go.Proofs.Tryz.f53 [.tmp 2] [Go.al.iy] (ct _) (Go.al.gl ab.aba fun p K bd=>cB (by kernel_rfl) (ab.VJ p K bd))
noncomputable def agZ:bw:=b0 (P:=P) b1 [] [] []
theorem zI:cr P 118 [Go.al.e4] ab.EL.T:=cM agZ bV Go.Proofs.Tryz.f118 [.cell 2 39] [Go.al.e4] (ct _) (Go.al.kx ab.ad5 fun s a b K bd=>cB (by kernel_rfl) (ab.VM s a b K bd))
noncomputable def ag0:bw:=b0 (P:=P) b1 [] [(0,{bN:=[(0, .aB (.cu .u32))]})] []
theorem ql:cr P 173 [Go.al.dk] ab.DS.T:=cM ag0 bV Go.Proofs.Tryz.f173 [.tmp 2] [Go.al.dk] (ct _) (Go.al.gl ab.abM fun a K bd=>cB (by kernel_rfl) (ab.adu a K bd))
noncomputable def ag1:bw:=b0 (P:=P) ((37,{ty:= .aB (.cu .u32),elem:=84,bytes:=4,fz:=[.int .u32]})::b1) [] [] []
theorem SV:cr P 194 [Go.al.dk] ab.Dg.T:=cM ag1 (DJ (by kernel_rfl) (by kernel_rfl) pA) Go.Proofs.Tryz.f194 [.tmp 2] [Go.al.dk] (ct _) (Go.al.gl ab.aal fun a K bd=>cB (by kernel_rfl) (ab.YR a K bd))
noncomputable def ag2:bw:=b0 (P:=P) b1 [⟨_,ql.d⟩,⟨_,SV.d⟩] [] []
theorem Ja:cr P 155 [Go.al.dk] ab.DT.T:=cM ag2 bV Go.Proofs.Tryz.f155 [.tmp 2] [Go.al.dk] (ct _) (Go.al.gl ab.abN fun a K bd=>cB (by kernel_rfl) (ab.adv a K bd))
noncomputable def ag3:bw:=b0 (P:=P) b1 [⟨_,ql.d⟩] [(0,{bN:=[(0, .ao),(1, .ao),(5, .aB (.int .i64))]})] []
theorem E5:cr P 171 [Go.al.dk,Go.al.dk] ab.EE.T:=cM ag3 bV Go.Proofs.Tryz.f171 [.tmp 4] [Go.al.bT] (ct _) (Go.al.e8 ab.adp fun a b K bd=>cB (by kernel_rfl) (ab.aep a b K bd))
noncomputable def ag4:bw:=b0 (P:=P) b1 [] [] [(15,{bN:=[(0, .ao),(1, .ao),(2, .ao)]})]
theorem ag5:cr P 206 [.aB (.int .u32), .aB (.int .u32), .aB (.int .u32)] ab.Df.T:=cM ag4 bV Go.Proofs.Tryz.f206 [.tmp 6, .tmp 7] [.aB (.int .u32), .aB (.int .u32)] (ct _) (Go.al.kx ab.aak fun h l y K bd=>cB (by kernel_rfl) (ab.Xl h l y K bd))
noncomputable def ag6:bw:=b0 (P:=P) b1 [⟨_,ql.d⟩,⟨_,ag5.d⟩] [(0,{bN:=[(0, .ao),(1, .ao),(6, .ao),(7, .aB (.int .u32)),(8, .aB (.int .i64))],I:=[.ad .u32]})] []
theorem SW:cr P 190 [Go.al.dk, .aB (.int .u32)] ab.Dh.T:=cM ag6 bV Go.Proofs.Tryz.f190 [.tmp 4, .tmp 5] [Go.al.dk, .aB (.int .u32)] (ct _) (Go.al.e8 ab.aam fun a d K bd=>cB (by kernel_rfl) (ab.abQ a d K bd))
noncomputable def ag7:bw:=b0 (P:=P) b1 [⟨_,ql.d⟩] [] []
theorem SX:cr P 196 [.aB (.int .u64)] ab.BL.T:=cM ag7 bV Go.Proofs.Tryz.f196 [.tmp 2] [Go.al.dk] (ct _) (Go.al.gl ab.Xf fun u K bd=>cB (by kernel_rfl) (ab.XX u K bd))
noncomputable def ag8:bw:=b0 (P:=P) b1 [] [] [(4,{bN:=[(0, .aB (.int .u32)),(2, .aB (.int .i64))]})]
theorem SY:cr P 184 [.aB (.int .u32)] ab.Di.T:=cM ag8 bV Go.Proofs.Tryz.f184 [.tmp 2] [Go.al.bT] (ct _) (Go.al.gl ab.aan fun x K bd=>cB (by kernel_rfl) (ab.Xo x K bd))
noncomputable def ag9:bw:=b0 (P:=P) b1 [⟨_,SY.d⟩] [] []
theorem ag_:cr P 212 [.aB (.int .u32)] ab.B2.T:=cM ag9 bV Go.Proofs.Tryz.f212 [.tmp 2] [Go.al.bT] (ct _) (Go.al.gl ab.XV fun x K bd=>cB (by kernel_rfl) (ab.Vu x K bd))
noncomputable def aha:bw:=b0 (P:=P) b1 [] [(0,{bN:=[(1, .ao),(5, .ao),(13, .ao),(14, .ao),(15, .aB (.int .i64))],I:=[.ad .u32]})] []
theorem ahb:qG P 213 [Go.al.dk, .aB (.int .u64)] ab.Dj.T:=FL aha bV Go.Proofs.Tryz.f213 4 Go.al.dk (ys _) (Go.al.Ue ab.aao fun a k K bd=>cB (by kernel_rfl) (ab.abU a k K bd))
noncomputable def ahc:bw:=b0 (P:=P) b1 [⟨_,ql.n⟩,⟨_,ag_.n⟩,⟨_,ahb.n⟩] [(0,{bN:=[(4, .ao),(6, .ao),(7, .ao),(8, .ao),(9, .ao),(10, .ao),(11, .ao),(12, .aB (.int .i64))],I:=[.ad .u32, .ao, .ad .u32]}),(2,{bN:=[(4, .ao),(6, .ao),(7, .ao),(8, .ao),(9, .ao),(10, .ao),(11, .ao),(12, .ao),(14, .aB (.int .u64)),(15, .aB (.int .u64))],I:=[.ao, .ao, .ao]}),(4,{bN:=[(4, .ao),(6, .ao),(7, .ao),(8, .ao),(9, .ao),(10, .ao),(11, .ao),(12, .ao),(14, .ao),(16, .aB (.int .u64)),(17, .aB (.int .u64)),(117, .ao),(118, .ao),(119, .aB (.int .i64))],I:=[.ad .u32, .ao, .ad .u32]}),(6,{bN:=[(4, .ao),(6, .ao),(7, .ao),(8, .ao),(9, .ao),(10, .ao),(11, .ao),(12, .ao),(14, .ao),(17, .aB (.int .u64)),(177, .ao),(178, .ao),(179, .aB (.int .i64))],I:=[.ad .u32, .ao, .ad .u32]}),(8,{bN:=[(4, .ao),(5, .ao),(6, .ao),(7, .ao),(223, .ao),(224, .aB (.int .i64))],I:=[.ad .u32, .ao, .ad .u32, .ad .u32]})] [(100002,{bN:=[(4, .ao),(6, .ao),(7, .ao),(8, .ao),(9, .ao),(10, .ao),(11, .ao),(12, .ao),(14, .aB (.int .u64))],I:=[.ao, .ao, .ao]}),(174,{bN:=[(4, .ao),(6, .ao),(7, .ao),(8, .ao),(9, .ao),(10, .ao),(11, .ao),(12, .ao),(14, .aB (.int .u64))],I:=[.ad .u32, .ao, .ad .u32]})]
theorem ahd:cr P 197 [Go.al.dk,Go.al.dk] ab.DV.T:=cM ahc bV Go.Proofs.Tryz.f197 [.tmp 4, .tmp 5] [Go.al.dk,Go.al.dk] (ct _) (Go.al.e8 ab.abO fun a b K bd=>cB (by kernel_rfl) (ab.adz a b K bd))
noncomputable def ahe:bw:=b0 (P:=P) b1 [⟨_,E5.d⟩,⟨_,ql.d⟩,⟨_,SW.d⟩,⟨_,SV.d⟩,⟨_,SX.d⟩,⟨_,ahd.d⟩] [] []
theorem SZ:cr P 157 [Go.al.dk,Go.al.dk] ab.CA.T:=cM ahe bV Go.Proofs.Tryz.f157 [.tmp 4, .tmp 5, .tmp 6] [Go.al.dk,Go.al.dk,Go.al.bT] (ct _) (Go.al.e8 ab.YK fun a b K bd=>cB (by kernel_rfl) (ab.aat a b K bd))
noncomputable def ahf:bw:=b0 (P:=P) b1 [] [(0,{bN:=[(3, .aB (.int .u64)),(6, .ao),(7, .ao),(8, .aB (.int .i64))]})] []
theorem ahg:cr P 195 [Go.al.dk] ab.Cz.T:=cM ahf bV Go.Proofs.Tryz.f195 [.tmp 2] [.aB (.int .u64)] (ct _) (Go.al.gl ab.YJ fun a K bd=>cB (by kernel_rfl) (ab.aaq a K bd))
noncomputable def ahh:bw:=b0 (P:=P) b1 [⟨_,Ja.n⟩,⟨_,SZ.n⟩,⟨_,ahg.n⟩,⟨_,SX.n⟩] [(0,{bN:=[(0, .aB (.cu .u32)),(1, .aB (.cu .u32))]}),(2,{bN:=[(8, .aB (.int .u64)),(9, .aB (.int .u64))]})] []
theorem ahi:cr P 156 [Go.al.dk,Go.al.dk] ab.EH.T:=cM ahh bV Go.Proofs.Tryz.f156 [.tmp 4] [Go.al.dk] (ct _) (Go.al.e8 ab.adt fun a b K bd=>cB (by kernel_rfl) (ab.aet a b K bd))
noncomputable def ahj:bw:=b0 (P:=P) b1 [⟨_,Ja.n⟩,⟨_,ahi.n⟩,⟨_,SZ.n⟩] [] []
theorem E6:cr P 117 [Go.al.iy,Go.al.dk,Go.al.dk] ab.CI.T:=cM ahj bV Go.Proofs.Tryz.f117 [.cell 6 133] [Go.al.e4] (ct _) (Go.al.kx ab.Zi fun s a b K bd=>cB (by kernel_rfl) (ab.Y2 s a b K bd))
noncomputable def ahk:bw:=b0 (P:=P) b1 [⟨_,E5.n⟩] [] []
theorem ahl:cr P 169 [Go.al.dk] ab.CJ.T:=cM ahk bV Go.Proofs.Tryz.f169 [.tmp 2] [Go.al.iy] (ct _) (Go.al.gl ab.Zj fun a K bd=>cB (by kernel_rfl) (ab.Y3 a K bd))
noncomputable def ahm:bw:=b0 (P:=P) b1 [⟨_,E6.n⟩,⟨_,ahl.n⟩] [] []
theorem xg:cr P 139 [Go.al.e4] ab.wC.T:=cM ahm bV Go.Proofs.Tryz.f139 [.cell 2 133] [Go.al.e4] (ct _) (Go.al.kx ab.N7 fun s a b K bd=>cB (by kernel_rfl) (ab.Y4 s a b K bd))
noncomputable def ahn:bw:=b0 (P:=P) b1 [] [] []
theorem S0:cr P 140 [Go.al.dk] ab.EM.T:=cM ahn bV Go.Proofs.Tryz.f140 [.tmp 2] [Go.al.iy] (ct _) (Go.al.gl ab.ad6 fun a K bd=>cB (by kernel_rfl) (ab.adE a K bd))
noncomputable def aho:bw:=b0 (P:=P) b1 [] [] []
theorem S1:cr P 175 [.aB (.int .u32), .aB (.int .u32), .aB (.int .u32)] ab.Dd.T:=cM aho bV Go.Proofs.Tryz.f175 [.tmp 6, .tmp 7] [.aB (.int .u32), .aB (.int .u32)] (ct _) (Go.al.kx ab.aai fun x y c K bd=>cB (by kernel_rfl) (ab.Xk x y c K bd))
noncomputable def ahp:bw:=b0 (P:=P) b1 [⟨_,ql.d⟩,⟨_,S1.d⟩] [(0,{bN:=[(0, .ao),(1, .ao),(5, .ao),(6, .aB (.int .u32)),(21, .ao),(22, .ao),(23, .aB (.int .i64))],I:=[.ad .u32]})] [(14,{bN:=[(0, .aB (.cu .u32)),(1, .aB (.cu .u32))]}),(31,{bN:=[(0, .ao),(1, .ao),(5, .ao),(6, .ao),(7, .ao),(8, .ao),(9, .aB (.int .u32)),(21, .ao),(22, .ao),(23, .ao)],I:=[.ao]})]
theorem ahq:cr P 170 [Go.al.dk,Go.al.dk] ab.iF.T:=cM ahp bV Go.Proofs.Tryz.f170 [.tmp 4] [Go.al.dk] (ct _) (Go.al.e8 ab.adq fun a b K bd=>cB (by kernel_rfl) (ab.aen a b K bd))
noncomputable def ahr:bw:=b0 (P:=P) b1 [] [] []
theorem ahs:cr P 198 [.aB (.int .u32), .aB (.int .u32), .aB (.int .u32)] ab.De.T:=cM ahr bV Go.Proofs.Tryz.f198 [.tmp 6, .tmp 7] [.aB (.int .u32), .aB (.int .u32)] (ct _) (Go.al.kx ab.aaj fun x y c K bd=>cB (by kernel_rfl) (ab.Xm x y c K bd))
noncomputable def aht:bw:=b0 (P:=P) b1 [⟨_,E5.d⟩,⟨_,ql.d⟩,⟨_,ahs.d⟩] [(0,{bN:=[(1, .ao),(6, .ao),(7, .aB (.int .u32)),(22, .ao),(23, .ao),(24, .aB (.int .i64))],I:=[.ad .u32]})] [(32,{bN:=[(1, .ao),(6, .ao),(7, .ao),(8, .ao),(9, .ao),(10, .aB (.int .u32)),(22, .ao),(23, .ao),(24, .ao)],I:=[.ao]})]
theorem ahu:cr P 172 [Go.al.dk,Go.al.dk] ab.EG.T:=cM aht bV Go.Proofs.Tryz.f172 [.tmp 4, .tmp 5] [Go.al.dk,Go.al.bT] (ct _) (Go.al.e8 ab.ads fun a b K bd=>cB (by kernel_rfl) (ab.aeq a b K bd))
noncomputable def ahv:bw:=b0 (P:=P) b1 [⟨_,E6.n⟩,⟨_,ahq.n⟩,⟨_,E5.n⟩,⟨_,ahu.n⟩] [] [(25,{bN:=[(0, .aB (.bool)),(1, .aB (.cu .u32)),(3, .aB (.cu .u32)),(4, .ao),(10, .ao)],I:=[.ao]})]
theorem ahw:cr P 141 [Go.al.iy,Go.al.dk,Go.al.iy,Go.al.dk,Go.al.dk] ab.B5.T:=cM ahv bV Go.Proofs.Tryz.f141 [.cell 10 133] [Go.al.e4] (ct _) (Go.al.akI ab.X4 fun s a t b d K bd=>cB (by kernel_rfl) (ab.X0 s a t b d K bd))
noncomputable def ahx:bw:=b0 (P:=P) b1 [] [] []
theorem ahy:cr P 174 [.aB (.int .u32), .aB (.int .u32)] ab.Dc.T:=cM ahx bV Go.Proofs.Tryz.f174 [.tmp 4, .tmp 5] [.aB (.int .u32), .aB (.int .u32)] (ct _) (Go.al.e8 ab.aah fun x y K bd=>cB (by kernel_rfl) (ab.Xj x y K bd))
noncomputable def ahz:bw:=b0 (P:=P) b1 [⟨_,ql.d⟩,⟨_,ahy.d⟩,⟨_,S1.d⟩] [(0,{bN:=[(1, .ao),(5, .ao),(24, .ao),(25, .ao),(26, .aB (.int .i64))],I:=[.ad .u32]}),(2,{bN:=[(1, .ao),(5, .ao),(6, .ao),(7, .ao),(8, .aB (.int .u32)),(24, .ao),(25, .ao),(26, .ao),(31, .ao),(32, .ao),(33, .aB (.int .i64))],I:=[.ad .u32]})] []
theorem S2:cr P 142 [Go.al.dk,Go.al.dk] ab.EF.T:=cM ahz bV Go.Proofs.Tryz.f142 [.tmp 4] [Go.al.dk] (ct _) (Go.al.e8 ab.adr fun a b K bd=>cB (by kernel_rfl) (ab.aeo a b K bd))
noncomputable def ahA:bw:=b0 (P:=P) b1 [⟨_,zI.n⟩,⟨_,xg.n⟩,⟨_,S0.n⟩,⟨_,ahw.n⟩,⟨_,S2.n⟩] [] []
theorem Jb:cr P 100 [Go.al.e4,Go.al.e4] ab.wY.T:=cM ahA bV Go.Proofs.Tryz.f100 [.cell 4 39] [Go.al.e4] (ct _) (Go.al.r2 ab.P9 fun s a b t c d K bd=>cB (by kernel_rfl) (ab.adI s a b t c d K bd))
noncomputable def ahB:bw:=b0 (P:=P) b1 [⟨_,xg.n⟩] [] []
theorem E7:cr P 101 [Go.al.e4] ab.wM.T:=cM ahB bV Go.Proofs.Tryz.f101 [.tmp 2] [Go.al.bT] (ct _) (Go.al.kx ab.aa1 fun s a b K bd=>cB (by kernel_rfl) (ab.acd s a b K bd))
noncomputable def ahC:bw:=b0 (P:=P) b1 [] [] []
theorem ahD:cr P 204 [Go.al.bT] ab.Ds.T:=cM ahC bV Go.Proofs.Tryz.f204 [.tmp 2] [Go.al.iy] (ct _) (Go.al.gl ab.aa6 fun a K bd=>cB (by kernel_rfl) (ab.VQ a K bd))
noncomputable def ahE:bw:=b0 (P:=P) b1 [⟨_,ahD.n⟩] [] []
theorem ahF:cr P 186 [Go.al.bT,Go.al.bT] ab.D6.T:=cM ahE bV Go.Proofs.Tryz.f186 [.tmp 4] [Go.al.bT] (ct _) (Go.al.e8 ab.acI fun a b K bd=>cB (by kernel_rfl) (ab.VG a b K bd))
noncomputable def ahG:bw:=b0 (P:=P) b1 [⟨_,ahF.n⟩] [(0,{bN:=[(0, .ao),(1, .ao),(9, .ao),(10, .ao),(11, .aB (.int .i64))]})] []
theorem S3:cr P 145 [.aB (.cu .i64), .aB (.cu .i64)] ab.Ca.T:=cM ahG bV Go.Proofs.Tryz.f145 [.tmp 4] [Go.al.bT] (ct _) (Go.al.e8 ab.X_ fun a b K bd=>cB (by kernel_rfl) (ab.Vj a b K bd))
noncomputable def ahH:bw:=b0 (P:=P) b1 [⟨_,S3.n⟩] [] []
theorem m3:pJ P 103 [.struct [] [.bool], .struct [] [.int .i64, .int .i64, .int .i64, .int .i64, .int .i64, .int .i64, .int .i64, .int .i64, .bool, .cu .u32, .cu .u32], .struct [] [.int .i64, .int .i64, .int .i64, .int .i64, .int .i64, .int .i64, .int .i64, .int .i64, .bool, .cu .u32, .cu .u32]] (ab.qf.T ⟨103,true⟩):=Av ahH bV Go.Proofs.Tryz.f103 [.tmp 6] (ct _) (Go.al.e8 (ab.ac2 103) fun a b K bd=>cB (by kernel_rfl) (ab.U7 _ rfl a b K bd))
noncomputable def aff:bw:=b0 (P:=P) b1 [⟨_,m3.n⟩] [(0,{bN:=[(0, .ao),(1, .ao),(2, .ao),(3, .ao),(8, .aB (.int .i64))],I:=[.ar 11]}),(2,{bN:=[(0, .ao),(1, .ao),(2, .ao),(3, .ao),(8, .ao),(9, .aB (.int .i64))],I:=[.ar 11]})] []
theorem afg:hY P 176 0 [Go.al.bT,Go.al.bT,Go.al.fH] (ab.EN.T ⟨103,true⟩):=oA 0 aff bV Go.Proofs.Tryz.f176 [] [] (gZ _) (Go.al.k3 (ab.Q4 ⟨103,true⟩) fun l a b K bd=>n7 (by kernel_rfl) (ab.KK l a b K bd))
noncomputable def afh:bw:=b0 (P:=P) b1 [⟨_,m3.n⟩] [(0,{bN:=[(0, .ao),(2, .ao),(3, .ao),(4, .ao),(10, .aB (.int .i64))],I:=[.ar 11]})] [(40,{bN:=[(0, .ao),(2, .ao),(3, .ao),(4, .ao),(10, .ao),(11, .aB (.int .i64))],I:=[.ar 11]})]
theorem afi:gW P 199 [Go.al.bT,Go.al.bT,Go.al.bT,Go.al.fH] (ab.D0.T ⟨103,true⟩):=h6 afh bV Go.Proofs.Tryz.f199 [] [] (gZ _) (Go.al.nc (ab.Qa ⟨103,true⟩) fun l lo hi f K bd=>hZ (by kernel_rfl) (ab.K0 l lo hi f K bd))
noncomputable def afj:bw:=b0 (P:=P) b1 [⟨_,m3.n⟩,⟨_,afi.d⟩] [(0,{bN:=[(0, .ao),(3, .ao),(8, .ao),(9, .ao),(10, .ao),(11, .aB (.int .i64))],I:=[.ar 11]}),(2,{bN:=[(0, .ao),(3, .ao),(8, .ao),(9, .ao),(12, .aB (.int .i64))],I:=[.ar 11]})] [(100000,{bN:=[(0, .ao),(3, .ao),(8, .ao),(9, .ao),(10, .ao)],I:=[.ar 11]})]
theorem afk:gW P 177 [Go.al.bT,Go.al.bT,Go.al.fH] (ab.D1.T ⟨103,true⟩):=h6 afj bV Go.Proofs.Tryz.f177 [] [] (gZ _) (Go.al.k3 (ab.Qb ⟨103,true⟩) fun l a b K bd=>hZ (by kernel_rfl) (ab.K1 l a b K bd))
noncomputable def ahI:bw:=b0 (P:=P) b1 [] [] [(4,{bN:=[(0, .aB (.int .u64)),(2, .aB (.int .i64))]}),(8,{bN:=[(0, .aB (.int .u64)),(2, .aB (.int .i64))]})]
theorem ahJ:cr P 185 [.aB (.int .u64)] ab.wP.T:=cM ahI bV Go.Proofs.Tryz.f185 [.tmp 2] [Go.al.bT] (ct _) (Go.al.gl ab.O5 fun x K bd=>cB (by kernel_rfl) (ab.Xp x K bd))
noncomputable def ahK:bw:=b0 (P:=P) b1 [⟨_,SY.n⟩,⟨_,ahJ.n⟩] [] []
theorem Jc:cr P 144 [.aB (.int .u64)] ab.wP.T:=cM ahK bV Go.Proofs.Tryz.f144 [.tmp 2] [Go.al.bT] (ct _) (Go.al.gl ab.O5 fun x K bd=>cB (by kernel_rfl) (ab.YY x K bd))
noncomputable def ahL:bw:=b0 (P:=P) b1 [⟨_,Jc.n⟩] [] []
theorem S4:cr P 200 [Go.al.bT] ab.EP.T:=cM ahL bV Go.Proofs.Tryz.f200 [.tmp 2] [.aB (.int .u64)] (ct _) (Go.al.gl ab.ad_ fun x K bd=>cB (by kernel_rfl) (ab.VE x K bd))
noncomputable def ahM:bw:=b0 (P:=P) b1 [] [] []
theorem S5:gW P 201 [] ab.ER.T:=h6 ahM bV Go.Proofs.Tryz.f201 [.tmp 2] [.aB (.int .u64)] ab.aeI (Go.al.FM ab.aea fun x K bd=>hZ (by kernel_rfl) (ab.Vy x K bd))
noncomputable def afl:bw:=b0 (P:=P) b1 [⟨_,m3.n⟩,⟨_,S4.n⟩,⟨_,S5.d⟩] [(0,{bN:=[(0, .ao),(1, .ao),(8, .ao),(9, .ao),(10, .ao),(11, .aB (.int .i64))],I:=[.ar 11, .cells [.int .u64]]})] [(45,{bN:=[(0, .ao),(1, .ao),(8, .ao),(9, .ao),(10, .ao),(11, .ao),(12, .aB (.int .i64))],I:=[.ar 11, .ao]})]
theorem afm:gW P 178 [Go.al.bT,Go.al.bT,Go.al.fH] (ab.yX.T ⟨103,true⟩):=h6 afl bV Go.Proofs.Tryz.f178 [] [] (ab.Qf _) (Go.al.k3 (ab.O4 ⟨103,true⟩) fun l a b K bd=>hZ (by kernel_rfl) (ab.KL l a b K bd))
noncomputable def afn:bw:=b0 (P:=P) b1 [⟨_,m3.n⟩] [] []
theorem afo:hY P 214 3 [Go.al.c_,Go.al.bT,Go.al.bT,Go.al.fH] (ab.D3.T ⟨103,true⟩):=oA 3 afn bV Go.Proofs.Tryz.f214 [.tmp 10, .tmp 11] [Go.al.bT,Go.al.bT] (gZ _) (Go.al.nc (ab.Qd ⟨103,true⟩) fun l a b s K bd=>n7 (by kernel_rfl) (ab.K6 l a b s K bd))
noncomputable def afp:bw:=b0 (P:=P) b1 [⟨_,m3.n⟩,⟨_,afo.n⟩] [] []
theorem Sg:hY P 203 4 [Go.al.c_,Go.al.bT,Go.al.bT,Go.al.bT,Go.al.fH] (ab.ES.T ⟨103,true⟩):=oA 4 afp bV Go.Proofs.Tryz.f203 [.tmp 12] [Go.al.bT] (gZ _) (Go.al.FN (ab.Q6 ⟨103,true⟩) fun l a b e s K bd=>n7 (by kernel_rfl) (ab.K7 l a b e s K bd))
noncomputable def afq:bw:=b0 (P:=P) b1 [⟨_,m3.n⟩,⟨_,Sg.n⟩] [] []
theorem afr:hY P 202 2 [Go.al.c_,Go.al.bT,Go.al.fH] (ab.CM.T ⟨103,true⟩):=oA 2 afq bV Go.Proofs.Tryz.f202 [.tmp 8] [Go.al.bT] (gZ _) (Go.al.k3 (ab.N9 ⟨103,true⟩) fun l a s K bd=>n7 (by kernel_rfl) (ab.KI l a s K bd))
noncomputable def afs:bw:=b0 (P:=P) b1 [⟨_,m3.n⟩,⟨_,afr.n⟩,⟨_,Sg.n⟩] [] [(34,{bN:=[(11, .ao),(13, .aB (.int .i64))],I:=[.cells [.int .i64]]}),(36,{bN:=[(0, .ao),(3, .ao),(11, .ao),(12, .aB (.int .i64)),(13, .aB (.int .i64)),(14, .aB (.int .i64))],I:=[.cells [.int .i64]]})]
theorem aft:pJ P 179 [Go.al.c_,Go.al.bT,Go.al.bT,Go.al.fH] (ab.Dq.T ⟨103,true⟩):=Av afs bV Go.Proofs.Tryz.f179 [.tmp 8, .tmp 9] (ct _) (Go.al.kx (ab.O3 ⟨103,true⟩) fun l a b K bd=>cB (by kernel_rfl) (ab.KQ l a b K bd))
noncomputable def afu:bw:=b0 (P:=P) b1 [⟨_,m3.n⟩] [(0,{bN:=[(0, .ao),(8, .aB (.int .i64)),(9, .aB (.int .i64))],I:=[.ar 11]})] []
theorem afv:gW P 180 [Go.al.bT,Go.al.bT,Go.al.fH] (ab.EO.T ⟨103,true⟩):=h6 afu bV Go.Proofs.Tryz.f180 [] [] (gZ _) (Go.al.k3 (ab.Q5 ⟨103,true⟩) fun l a b K bd=>hZ (by kernel_rfl) (ab.KN l a b K bd))
noncomputable def afw:bw:=b0 (P:=P) b1 [⟨_,m3.n⟩] [(0,{bN:=[(0, .ao),(1, .ao),(2, .ao),(3, .ao),(9, .aB (.int .i64)),(10, .aB (.int .i64))],I:=[.ar 11]}),(2,{bN:=[(0, .ao),(1, .ao),(2, .ao),(3, .ao),(9, .aB (.int .i64)),(10, .ao)],I:=[.ar 11]}),(4,{bN:=[(0, .ao),(1, .ao),(2, .ao),(3, .ao),(9, .ao),(10, .ao),(11, .aB (.int .i64))],I:=[.ar 11]}),(6,{bN:=[(0, .ao),(1, .ao),(2, .ao),(3, .ao),(9, .ao),(10, .ao),(12, .aB (.int .i64))],I:=[.ar 11]})] [(100000,{bN:=[(0, .ao)],I:=[.ar 11]}),(100002,{bN:=[(0, .ao),(1, .ao),(2, .ao),(3, .ao),(9, .aB (.int .i64)),(10, .ao)],I:=[.ar 11]}),(65,{bN:=[(0, .ao),(1, .ao),(2, .ao),(3, .ao),(9, .ao),(10, .ao)],I:=[.ar 11]})]
theorem afx:gW P 181 [Go.al.bT,Go.al.bT,Go.al.fH] (ab.B_.T ⟨103,true⟩):=h6 afw bV Go.Proofs.Tryz.f181 [.tmp 8] [Go.al.iy] (gZ _) (Go.al.k3 (ab.Nl ⟨103,true⟩) fun l a b K bd=>hZ (by kernel_rfl) (ab.KC l a b K bd))
noncomputable def afy:bw:=b0 (P:=P) b1 [⟨_,m3.n⟩] [(0,{bN:=[(0, .ao),(1, .ao),(4, .ao),(11, .aB (.int .i64)),(12, .aB (.int .i64))],I:=[.ar 11]}),(2,{bN:=[(0, .ao),(1, .ao),(4, .ao),(11, .aB (.int .i64)),(12, .ao)],I:=[.ar 11]}),(4,{bN:=[(0, .ao),(1, .ao),(4, .ao),(11, .ao),(12, .aB (.int .i64))],I:=[.ar 11]})] [(100000,{bN:=[(0, .ao),(11, .aB (.int .i64))],I:=[.ar 11]}),(100002,{bN:=[(0, .ao),(1, .ao),(4, .ao),(11, .aB (.int .i64)),(12, .ao)],I:=[.ar 11]}),(100004,{bN:=[(0, .ao),(1, .ao),(4, .ao),(11, .ao),(12, .aB (.int .i64))],I:=[.ar 11]})]
theorem afz:gW P 182 [Go.al.bT,Go.al.bT,Go.al.bT,Go.al.fH] (ab.CL.T ⟨103,true⟩):=h6 afy bV Go.Proofs.Tryz.f182 [.tmp 10] [Go.al.bT] (gZ _) (Go.al.nc (ab.N8 ⟨103,true⟩) fun l a b p K bd=>hZ (by kernel_rfl) (ab.KH l a b p K bd))
noncomputable def afA:bw:=b0 (P:=P) b1 [⟨_,m3.n⟩] [(0,{bN:=[(0, .ao),(1, .ao),(4, .ao),(12, .aB (.int .i64)),(13, .ao)],I:=[.ar 11]}),(2,{bN:=[(0, .ao),(1, .ao),(4, .ao),(12, .ao),(13, .aB (.int .i64))],I:=[.ar 11]}),(4,{bN:=[(0, .ao),(1, .ao),(4, .ao),(12, .aB (.int .i64)),(13, .aB (.int .i64))],I:=[.ar 11]}),(6,{bN:=[(0, .ao),(1, .ao),(4, .ao),(12, .aB (.int .i64)),(13, .ao)],I:=[.ar 11]}),(8,{bN:=[(0, .ao),(1, .ao),(4, .ao),(12, .ao),(13, .aB (.int .i64))],I:=[.ar 11]})] [(100000,{bN:=[(0, .ao),(1, .ao),(4, .ao),(12, .aB (.int .i64)),(13, .ao)],I:=[.ar 11]}),(100002,{bN:=[(0, .ao),(1, .ao),(4, .ao),(12, .ao),(13, .aB (.int .i64))],I:=[.ar 11]}),(100004,{bN:=[(0, .ao),(1, .ao),(13, .aB (.int .i64))],I:=[.ar 11]}),(100006,{bN:=[(0, .ao),(1, .ao),(4, .ao),(12, .aB (.int .i64)),(13, .ao)],I:=[.ar 11]}),(100008,{bN:=[(0, .ao),(1, .ao),(4, .ao),(12, .ao),(13, .aB (.int .i64))],I:=[.ar 11]})]
theorem afB:gW P 183 [Go.al.bT,Go.al.bT,Go.al.bT,Go.al.fH] (ab.D2.T ⟨103,true⟩):=h6 afA bV Go.Proofs.Tryz.f183 [.tmp 10, .tmp 11] [Go.al.bT,Go.al.iy] (gZ _) (Go.al.nc (ab.Qc ⟨103,true⟩) fun l a b p K bd=>hZ (by kernel_rfl) (ab.KX l a b p K bd))
noncomputable def afC (n:Nat) (ay:hY P 143 0 [Go.al.bT,Go.al.bT,Go.al.bT,Go.al.fH] (ab.kS.T ⟨103,true⟩ n)):bw:=b0 (P:=P) b1 [⟨_,m3.n⟩,⟨_,ay.d⟩,⟨_,afg.n⟩,⟨_,afk.n⟩,⟨_,afm.d⟩,⟨_,aft.n⟩,⟨_,afv.n⟩,⟨_,afx.n⟩,⟨_,afz.n⟩,⟨_,afB.n⟩] [(0,{bN:=[(0, .ao),(1, .aB (.int .i64)),(2, .aB (.int .i64)),(3, .aB (.int .i64)),(4, .ao),(10, .aB (.bool)),(11, .aB (.bool))],I:=[.ar 11]})] [(39,{bN:=[(0, .ao),(1, .ao),(2, .ao),(3, .aB (.int .i64)),(4, .ao),(10, .ao),(11, .ao),(12, .ao)],I:=[.ar 11]}),(56,{bN:=[(0, .ao),(1, .ao),(2, .ao),(3, .ao),(4, .ao),(10, .ao),(11, .ao),(12, .ao),(13, .aB (.int .i64)),(14, .aB (.int .i64))],I:=[.ar 11]}),(75,{bN:=[(0, .ao),(1, .ao),(2, .ao),(3, .ao),(4, .ao),(10, .ao),(11, .ao),(12, .ao),(13, .ao)],I:=[.ar 11]})]
theorem afD (n:Nat)(ay:hY P 143 0 [Go.al.bT,Go.al.bT,Go.al.bT,Go.al.fH] (ab.kS.T ⟨103,true⟩ n)):hY P 143 0 [Go.al.bT,Go.al.bT,Go.al.bT,Go.al.fH] (ab.kS.T ⟨103,true⟩ (n+1)):=oA 0 (afC n ay) bV Go.Proofs.Tryz.f143 [] [] (ab.DM _ _) (Go.al.nc (ab.Ib ⟨103,true⟩ (n+1)) fun l a b m K bd=>n7 (by kernel_rfl) (ab.K4 n l a b m K bd))
theorem Sh:∀n,hY P 143 0 [Go.al.bT,Go.al.bT,Go.al.bT,Go.al.fH] (ab.kS.T ⟨103,true⟩ n)
 |0=>⟨ab.Qh _ ⟨_,Go.Proofs.Tryz.func143,rfl,by kernel_rfl⟩,ab.DM _ _⟩
 |n+1=>afD n (Sh n)
theorem aeN:hY P 143 0 [Go.al.bT,Go.al.bT,Go.al.bT,Go.al.fH] (ab.sV.T ⟨103,true⟩):=⟨ab.Qg (fun n=>(Sh n).s) (ab.Q9 _),ab.Q7 _⟩
noncomputable def afE:bw:=b0 (P:=P) b1 [⟨_,m3.n⟩,⟨_,aeN.d⟩,⟨_,Jc.n⟩] [] []
theorem afF:hY P 102 0 [Go.al.fH] (ab.y_.T ⟨103,true⟩):=oA 0 afE bV Go.Proofs.Tryz.f102 [] [] (ab.Q8 _) (Go.al.FM (ab.Qe ⟨103,true⟩) fun l K bd=>n7 (by kernel_rfl) (ab.KU l K bd))
noncomputable def alc:bw:=b0 (P:=P) b1 [⟨_,Jb.n⟩,⟨_,E7.n⟩,⟨_,afF.d⟩] [(0,{bN:=[(3, .ao),(4, .ao),(13, .ao),(14, .ao),(15, .aB (.int .i64))],I:=[.map 8 11, .ar 8],conv:=[(4, .dB 8)]}),(2,{bN:=[(3, .ao),(9, .ao),(44, .ao),(45, .ao),(46, .aB (.int .i64))],I:=[.map 8 11, .ar 8, .ar 11],conv:=[(9, .dB 11)]})] [(27,{bN:=[(3, .ao),(4, .ao),(6, .ao),(13, .ao),(14, .ao),(15, .ao)],I:=[.map 8 11, .ar 8, .ar 11]})]
theorem Az:cr P 54 [Go.al.c_] ab.so.T:=cM alc bV Go.Proofs.Tryz.f54 [.tmp 2] [Go.al.c_] (ct _) (Go.al.gl ab.Nn fun l K bd=>cB (by kernel_rfl) (ab.Vz l K bd))
noncomputable def ald:bw:=b0 (P:=P) b1 [] [(0,{bN:=[(1, .ao),(5, .aB (.int .i64)),(8, .ao),(9, .ao),(10, .aB (.int .i64))]})] []
theorem Kd:cr P 65 [Go.al.c_,Go.al.bT] ab.Ec.T:=cM ald bV Go.Proofs.Tryz.f65 [.tmp 4] [Go.al.bT] (ct _) (Go.al.e8 ab.acO fun p v K bd=>cB (by kernel_rfl) (ab.VZ p v K bd))
noncomputable def ale:bw:=b0 (P:=P) b1 [⟨_,Kd.n⟩] [(0,{bN:=[(0, .ao),(1, .ao),(2, .ao),(8, .aB (.int .i64))]})] []
theorem alf:cr P 55 [Go.al.c_,Go.al.bT,Go.al.c_] ab.Eh.T:=cM ale bV Go.Proofs.Tryz.f55 [.tmp 6] [Go.al.iy] (ct _) (Go.al.kx ab.acV fun p n q K bd=>cB (by kernel_rfl) (ab.Vw p n q K bd))
noncomputable def ahN:bw:=b0 (P:=P) b1 [] [(0,{bN:=[(2, .ao),(3, .ao),(4, .ao),(6, .aB (.int .i64))],I:=[.ar 8, .ar 8, .ar 8]})] []
theorem ahO:cr P 104 [.arr 8 (.aB (.int .i64)) [.int .i64, .int .i64, .int .i64, .int .i64, .int .i64, .int .i64, .int .i64, .int .i64], .arr 8 (.aB (.int .i64)) [.int .i64, .int .i64, .int .i64, .int .i64, .int .i64, .int .i64, .int .i64, .int .i64]] ab.Dt.T:=cM ahN bV Go.Proofs.Tryz.f104 [.cell 4 36] [.arr 8 (.aB (.int .i64)) [.int .i64, .int .i64, .int .i64, .int .i64, .int .i64, .int .i64, .int .i64, .int .i64]] (ct _) (Go.al.e8 ab.aa7 fun a b K bd=>cB (by kernel_rfl) (ab.V3 a b K bd))
noncomputable def ahP:bw:=b0 (P:=P) b1 [⟨_,E6.n⟩,⟨_,zI.n⟩,⟨_,xg.n⟩,⟨_,S2.n⟩] [] []
theorem S6:cr P 105 [Go.al.e4,Go.al.e4] ab.wZ.T:=cM ahP bV Go.Proofs.Tryz.f105 [.cell 4 39] [Go.al.e4] (ct _) (Go.al.r2 ab.P_ fun s a b t c d K bd=>cB (by kernel_rfl) (ab.adL s a b t c d K bd))
noncomputable def ahQ:bw:=b0 (P:=P) b1 [⟨_,S3.n⟩] [] []
theorem m4:pJ P 149 [.struct [] [.int .i64], .struct [] [.int .i64, .int .i64, .int .i64, .int .i64, .int .i64, .int .i64, .int .i64, .int .i64, .bool, .cu .u32, .cu .u32], .struct [] [.int .i64, .int .i64, .int .i64, .int .i64, .int .i64, .int .i64, .int .i64, .int .i64, .bool, .cu .u32, .cu .u32]] (ab.qf.T ⟨149,false⟩):=Av ahQ bV Go.Proofs.Tryz.f149 [.tmp 6] (ct _) (Go.al.e8 (ab.ac3 149) fun a b K bd=>cB (by kernel_rfl) (ab.Vb _ rfl a b K bd))
noncomputable def afG:bw:=b0 (P:=P) b1 [⟨_,m4.n⟩] [(0,{bN:=[(0, .ao),(1, .ao),(2, .ao),(3, .ao),(8, .aB (.int .i64))],I:=[.ar 11]}),(2,{bN:=[(0, .ao),(1, .ao),(2, .ao),(3, .ao),(8, .ao),(9, .aB (.int .i64))],I:=[.ar 11]})] []
theorem afH:hY P 176 0 [Go.al.bT,Go.al.bT,Go.al.fH] (ab.EN.T ⟨149,false⟩):=oA 0 afG bV Go.Proofs.Tryz.f176 [] [] (gZ _) (Go.al.k3 (ab.Q4 ⟨149,false⟩) fun l a b K bd=>n7 (by kernel_rfl) (ab.KK l a b K bd))
noncomputable def afI:bw:=b0 (P:=P) b1 [⟨_,m4.n⟩] [(0,{bN:=[(0, .ao),(2, .ao),(3, .ao),(4, .ao),(10, .aB (.int .i64))],I:=[.ar 11]})] [(40,{bN:=[(0, .ao),(2, .ao),(3, .ao),(4, .ao),(10, .ao),(11, .aB (.int .i64))],I:=[.ar 11]})]
theorem afJ:gW P 199 [Go.al.bT,Go.al.bT,Go.al.bT,Go.al.fH] (ab.D0.T ⟨149,false⟩):=h6 afI bV Go.Proofs.Tryz.f199 [] [] (gZ _) (Go.al.nc (ab.Qa ⟨149,false⟩) fun l lo hi f K bd=>hZ (by kernel_rfl) (ab.K0 l lo hi f K bd))
noncomputable def afK:bw:=b0 (P:=P) b1 [⟨_,m4.n⟩,⟨_,afJ.d⟩] [(0,{bN:=[(0, .ao),(3, .ao),(8, .ao),(9, .ao),(10, .ao),(11, .aB (.int .i64))],I:=[.ar 11]}),(2,{bN:=[(0, .ao),(3, .ao),(8, .ao),(9, .ao),(12, .aB (.int .i64))],I:=[.ar 11]})] [(100000,{bN:=[(0, .ao),(3, .ao),(8, .ao),(9, .ao),(10, .ao)],I:=[.ar 11]})]
theorem afL:gW P 177 [Go.al.bT,Go.al.bT,Go.al.fH] (ab.D1.T ⟨149,false⟩):=h6 afK bV Go.Proofs.Tryz.f177 [] [] (gZ _) (Go.al.k3 (ab.Qb ⟨149,false⟩) fun l a b K bd=>hZ (by kernel_rfl) (ab.K1 l a b K bd))
noncomputable def afM:bw:=b0 (P:=P) b1 [⟨_,m4.n⟩,⟨_,S4.n⟩,⟨_,S5.d⟩] [(0,{bN:=[(0, .ao),(1, .ao),(8, .ao),(9, .ao),(10, .ao),(11, .aB (.int .i64))],I:=[.ar 11, .cells [.int .u64]]})] [(45,{bN:=[(0, .ao),(1, .ao),(8, .ao),(9, .ao),(10, .ao),(11, .ao),(12, .aB (.int .i64))],I:=[.ar 11, .ao]})]
theorem afN:gW P 178 [Go.al.bT,Go.al.bT,Go.al.fH] (ab.yX.T ⟨149,false⟩):=h6 afM bV Go.Proofs.Tryz.f178 [] [] (ab.Qf _) (Go.al.k3 (ab.O4 ⟨149,false⟩) fun l a b K bd=>hZ (by kernel_rfl) (ab.KL l a b K bd))
noncomputable def afO:bw:=b0 (P:=P) b1 [⟨_,m4.n⟩] [] []
theorem afP:hY P 214 3 [Go.al.c_,Go.al.bT,Go.al.bT,Go.al.fH] (ab.D3.T ⟨149,false⟩):=oA 3 afO bV Go.Proofs.Tryz.f214 [.tmp 10, .tmp 11] [Go.al.bT,Go.al.bT] (gZ _) (Go.al.nc (ab.Qd ⟨149,false⟩) fun l a b s K bd=>n7 (by kernel_rfl) (ab.K6 l a b s K bd))
noncomputable def afQ:bw:=b0 (P:=P) b1 [⟨_,m4.n⟩,⟨_,afP.n⟩] [] []
theorem Si:hY P 203 4 [Go.al.c_,Go.al.bT,Go.al.bT,Go.al.bT,Go.al.fH] (ab.ES.T ⟨149,false⟩):=oA 4 afQ bV Go.Proofs.Tryz.f203 [.tmp 12] [Go.al.bT] (gZ _) (Go.al.FN (ab.Q6 ⟨149,false⟩) fun l a b e s K bd=>n7 (by kernel_rfl) (ab.K7 l a b e s K bd))
noncomputable def afR:bw:=b0 (P:=P) b1 [⟨_,m4.n⟩,⟨_,Si.n⟩] [] []
theorem afS:hY P 202 2 [Go.al.c_,Go.al.bT,Go.al.fH] (ab.CM.T ⟨149,false⟩):=oA 2 afR bV Go.Proofs.Tryz.f202 [.tmp 8] [Go.al.bT] (gZ _) (Go.al.k3 (ab.N9 ⟨149,false⟩) fun l a s K bd=>n7 (by kernel_rfl) (ab.KI l a s K bd))
noncomputable def afT:bw:=b0 (P:=P) b1 [⟨_,m4.n⟩,⟨_,afS.n⟩,⟨_,Si.n⟩] [] [(34,{bN:=[(11, .ao),(13, .aB (.int .i64))],I:=[.cells [.int .i64]]}),(36,{bN:=[(0, .ao),(3, .ao),(11, .ao),(12, .aB (.int .i64)),(13, .aB (.int .i64)),(14, .aB (.int .i64))],I:=[.cells [.int .i64]]})]
theorem afU:pJ P 179 [Go.al.c_,Go.al.bT,Go.al.bT,Go.al.fH] (ab.Dq.T ⟨149,false⟩):=Av afT bV Go.Proofs.Tryz.f179 [.tmp 8, .tmp 9] (ct _) (Go.al.kx (ab.O3 ⟨149,false⟩) fun l a b K bd=>cB (by kernel_rfl) (ab.KQ l a b K bd))
noncomputable def afV:bw:=b0 (P:=P) b1 [⟨_,m4.n⟩] [(0,{bN:=[(0, .ao),(8, .aB (.int .i64)),(9, .aB (.int .i64))],I:=[.ar 11]})] []
theorem afW:gW P 180 [Go.al.bT,Go.al.bT,Go.al.fH] (ab.EO.T ⟨149,false⟩):=h6 afV bV Go.Proofs.Tryz.f180 [] [] (gZ _) (Go.al.k3 (ab.Q5 ⟨149,false⟩) fun l a b K bd=>hZ (by kernel_rfl) (ab.KN l a b K bd))
noncomputable def afX:bw:=b0 (P:=P) b1 [⟨_,m4.n⟩] [(0,{bN:=[(0, .ao),(1, .ao),(2, .ao),(3, .ao),(9, .aB (.int .i64)),(10, .aB (.int .i64))],I:=[.ar 11]}),(2,{bN:=[(0, .ao),(1, .ao),(2, .ao),(3, .ao),(9, .aB (.int .i64)),(10, .ao)],I:=[.ar 11]}),(4,{bN:=[(0, .ao),(1, .ao),(2, .ao),(3, .ao),(9, .ao),(10, .ao),(11, .aB (.int .i64))],I:=[.ar 11]}),(6,{bN:=[(0, .ao),(1, .ao),(2, .ao),(3, .ao),(9, .ao),(10, .ao),(12, .aB (.int .i64))],I:=[.ar 11]})] [(100000,{bN:=[(0, .ao)],I:=[.ar 11]}),(100002,{bN:=[(0, .ao),(1, .ao),(2, .ao),(3, .ao),(9, .aB (.int .i64)),(10, .ao)],I:=[.ar 11]}),(65,{bN:=[(0, .ao),(1, .ao),(2, .ao),(3, .ao),(9, .ao),(10, .ao)],I:=[.ar 11]})]
theorem afY:gW P 181 [Go.al.bT,Go.al.bT,Go.al.fH] (ab.B_.T ⟨149,false⟩):=h6 afX bV Go.Proofs.Tryz.f181 [.tmp 8] [Go.al.iy] (gZ _) (Go.al.k3 (ab.Nl ⟨149,false⟩) fun l a b K bd=>hZ (by kernel_rfl) (ab.KC l a b K bd))
noncomputable def afZ:bw:=b0 (P:=P) b1 [⟨_,m4.n⟩] [(0,{bN:=[(0, .ao),(1, .ao),(4, .ao),(11, .aB (.int .i64)),(12, .aB (.int .i64))],I:=[.ar 11]}),(2,{bN:=[(0, .ao),(1, .ao),(4, .ao),(11, .aB (.int .i64)),(12, .ao)],I:=[.ar 11]}),(4,{bN:=[(0, .ao),(1, .ao),(4, .ao),(11, .ao),(12, .aB (.int .i64))],I:=[.ar 11]})] [(100000,{bN:=[(0, .ao),(11, .aB (.int .i64))],I:=[.ar 11]}),(100002,{bN:=[(0, .ao),(1, .ao),(4, .ao),(11, .aB (.int .i64)),(12, .ao)],I:=[.ar 11]}),(100004,{bN:=[(0, .ao),(1, .ao),(4, .ao),(11, .ao),(12, .aB (.int .i64))],I:=[.ar 11]})]
theorem af0:gW P 182 [Go.al.bT,Go.al.bT,Go.al.bT,Go.al.fH] (ab.CL.T ⟨149,false⟩):=h6 afZ bV Go.Proofs.Tryz.f182 [.tmp 10] [Go.al.bT] (gZ _) (Go.al.nc (ab.N8 ⟨149,false⟩) fun l a b p K bd=>hZ (by kernel_rfl) (ab.KH l a b p K bd))
noncomputable def af1:bw:=b0 (P:=P) b1 [⟨_,m4.n⟩] [(0,{bN:=[(0, .ao),(1, .ao),(4, .ao),(12, .aB (.int .i64)),(13, .ao)],I:=[.ar 11]}),(2,{bN:=[(0, .ao),(1, .ao),(4, .ao),(12, .ao),(13, .aB (.int .i64))],I:=[.ar 11]}),(4,{bN:=[(0, .ao),(1, .ao),(4, .ao),(12, .aB (.int .i64)),(13, .aB (.int .i64))],I:=[.ar 11]}),(6,{bN:=[(0, .ao),(1, .ao),(4, .ao),(12, .aB (.int .i64)),(13, .ao)],I:=[.ar 11]}),(8,{bN:=[(0, .ao),(1, .ao),(4, .ao),(12, .ao),(13, .aB (.int .i64))],I:=[.ar 11]})] [(100000,{bN:=[(0, .ao),(1, .ao),(4, .ao),(12, .aB (.int .i64)),(13, .ao)],I:=[.ar 11]}),(100002,{bN:=[(0, .ao),(1, .ao),(4, .ao),(12, .ao),(13, .aB (.int .i64))],I:=[.ar 11]}),(100004,{bN:=[(0, .ao),(1, .ao),(13, .aB (.int .i64))],I:=[.ar 11]}),(100006,{bN:=[(0, .ao),(1, .ao),(4, .ao),(12, .aB (.int .i64)),(13, .ao)],I:=[.ar 11]}),(100008,{bN:=[(0, .ao),(1, .ao),(4, .ao),(12, .ao),(13, .aB (.int .i64))],I:=[.ar 11]})]
theorem af2:gW P 183 [Go.al.bT,Go.al.bT,Go.al.bT,Go.al.fH] (ab.D2.T ⟨149,false⟩):=h6 af1 bV Go.Proofs.Tryz.f183 [.tmp 10, .tmp 11] [Go.al.bT,Go.al.iy] (gZ _) (Go.al.nc (ab.Qc ⟨149,false⟩) fun l a b p K bd=>hZ (by kernel_rfl) (ab.KX l a b p K bd))
noncomputable def af3 (n:Nat) (ay:hY P 143 0 [Go.al.bT,Go.al.bT,Go.al.bT,Go.al.fH] (ab.kS.T ⟨149,false⟩ n)):bw:=b0 (P:=P) b1 [⟨_,ay.d⟩,⟨_,m4.n⟩,⟨_,afH.n⟩,⟨_,afL.n⟩,⟨_,afN.d⟩,⟨_,afU.n⟩,⟨_,afW.n⟩,⟨_,afY.n⟩,⟨_,af0.n⟩,⟨_,af2.n⟩] [(0,{bN:=[(0, .ao),(1, .aB (.int .i64)),(2, .aB (.int .i64)),(3, .aB (.int .i64)),(4, .ao),(10, .aB (.bool)),(11, .aB (.bool))],I:=[.ar 11]})] [(39,{bN:=[(0, .ao),(1, .ao),(2, .ao),(3, .aB (.int .i64)),(4, .ao),(10, .ao),(11, .ao),(12, .ao)],I:=[.ar 11]}),(56,{bN:=[(0, .ao),(1, .ao),(2, .ao),(3, .ao),(4, .ao),(10, .ao),(11, .ao),(12, .ao),(13, .aB (.int .i64)),(14, .aB (.int .i64))],I:=[.ar 11]}),(75,{bN:=[(0, .ao),(1, .ao),(2, .ao),(3, .ao),(4, .ao),(10, .ao),(11, .ao),(12, .ao),(13, .ao)],I:=[.ar 11]})]
theorem af4 (n:Nat)(ay:hY P 143 0 [Go.al.bT,Go.al.bT,Go.al.bT,Go.al.fH] (ab.kS.T ⟨149,false⟩ n)):hY P 143 0 [Go.al.bT,Go.al.bT,Go.al.bT,Go.al.fH] (ab.kS.T ⟨149,false⟩ (n+1)):=oA 0 (af3 n ay) bV Go.Proofs.Tryz.f143 [] [] (ab.DM _ _) (Go.al.nc (ab.Ib ⟨149,false⟩ (n+1)) fun l a b m K bd=>n7 (by kernel_rfl) (ab.K4 n l a b m K bd))
theorem Sj:∀n,hY P 143 0 [Go.al.bT,Go.al.bT,Go.al.bT,Go.al.fH] (ab.kS.T ⟨149,false⟩ n)
 |0=>⟨ab.Qh _ ⟨_,Go.Proofs.Tryz.func143,rfl,by kernel_rfl⟩,ab.DM _ _⟩
 |n+1=>af4 n (Sj n)
theorem aeO:hY P 143 0 [Go.al.bT,Go.al.bT,Go.al.bT,Go.al.fH] (ab.sV.T ⟨149,false⟩):=⟨ab.Qg (fun n=>(Sj n).s) (ab.Q9 _),ab.Q7 _⟩
noncomputable def af5:bw:=b0 (P:=P) b1 [⟨_,aeO.d⟩,⟨_,Jc.n⟩,⟨_,m4.n⟩] [] []
theorem af6:hY P 102 0 [Go.al.fH] (ab.y_.T ⟨149,false⟩):=oA 0 af5 bV Go.Proofs.Tryz.f102 [] [] (ab.Q8 _) (Go.al.FM (ab.Qe ⟨149,false⟩) fun l K bd=>n7 (by kernel_rfl) (ab.KU l K bd))
noncomputable def ahR:bw:=b0 (P:=P) b1 [⟨_,zI.n⟩,⟨_,xg.n⟩] [] []
theorem ahS:cr P 146 [Go.al.e4] ab.wC.T:=cM ahR bV Go.Proofs.Tryz.f146 [.cell 2 39] [Go.al.e4] (ct _) (Go.al.kx ab.N7 fun s a b K bd=>cB (by kernel_rfl) (ab.aca s a b K bd))
noncomputable def ahT:bw:=b0 (P:=P) b1 [⟨_,E7.n⟩] [] []
theorem Jd:cr P 148 [.struct [] [.int .i64, .int .i64, .int .i64, .int .i64, .int .i64, .int .i64, .int .i64, .int .i64, .bool, .cu .u32, .cu .u32]] ab.Dv.T:=cM ahT bV Go.Proofs.Tryz.f148 [.tmp 2] [Go.al.iy] (ct _) (Go.al.gl ab.aa8 fun r K bd=>cB (by kernel_rfl) (ab.VI r K bd))
noncomputable def ahU:bw:=b0 (P:=P) b1 [⟨_,Jd.n⟩] [(0,{bN:=[(0, .ao),(1, .ao),(7, .ao),(8, .aB (.int .i64))]})] []
theorem ahV:pJ P 187 [Go.al.c_,Go.al.fH] (ab.yI.T 148):=Av ahU bV Go.Proofs.Tryz.f187 [.tmp 4] (ct _) (Go.al.gl (ab.Zm 148) fun l K bd=>cB (by kernel_rfl) (ab.U8 148 l K bd))
noncomputable def ahW:bw:=b0 (P:=P) ((26,{ty:= .aB (.dB 11),elem:=41,bytes:=120,fz:=[.int .i64, .int .i64, .int .i64, .int .i64, .int .i64, .int .i64, .int .i64, .int .i64, .bool, .cu .u32, .cu .u32],lit:=true,cut:=true})::b1) [⟨_,Jd.n⟩,⟨_,ahV.n⟩] [(0,{bN:=[(0, .ao),(1, .ao),(5, .aB (.int .i64)),(6, .aB (.int .i64))],I:=[.ar 11]})] []
theorem ahX:vL P 147 [Go.al.fH] (ab.za.T 148):=akB ahW (DJ (by kernel_rfl) (by kernel_rfl) pA) Go.Proofs.Tryz.f147 4 (abL _) (Go.al.akJ (ab.acJ 148) fun l K bd=>cB (by kernel_rfl) (ab.U6 148 l K bd))
noncomputable def ahY:bw:=b0 (P:=P) b1 [⟨_,Jb.n⟩,⟨_,af6.d⟩,⟨_,ahS.n⟩,⟨_,ahX.n⟩,⟨_,Jd.n⟩] [(0,{bN:=[(3, .ao),(4, .ao),(13, .ao),(14, .ao),(15, .aB (.int .i64))],I:=[.map 8 9, .ar 11]})] []
theorem E8:cr P 106 [Go.al.c_] ab.so.T:=cM ahY bV Go.Proofs.Tryz.f106 [.tmp 2] [Go.al.c_] (ct _) (Go.al.gl ab.Nn fun l K bd=>cB (by kernel_rfl) (ab.VR l K bd))
noncomputable def alg:bw:=b0 (P:=P) b1 [⟨_,ahO.n⟩,⟨_,S6.n⟩,⟨_,E8.n⟩] [(0,{bN:=[(1, .ao),(5, .ao),(16, .ao),(17, .ao),(18, .aB (.int .i64))],I:=[.ar 11]}),(2,{bN:=[(1, .ao),(5, .ao),(7, .ao),(16, .ao),(17, .ao),(18, .ao),(22, .ao),(23, .ao),(24, .aB (.int .i64))],I:=[.ar 11, .ar 11]})] []
theorem alh:cr P 56 [Go.al.c_,Go.al.c_] ab.Eb.T:=cM alg bV Go.Proofs.Tryz.f56 [.tmp 4] [Go.al.c_] (ct _) (Go.al.e8 ab.acN fun p q K bd=>cB (by kernel_rfl) (ab.WL p q K bd))
noncomputable def ali:bw:=b0 (P:=P) b1 [⟨_,Ay.n⟩,⟨_,Az.n⟩,⟨_,alf.n⟩,⟨_,alh.n⟩] [] []
theorem alj:cr P 13 [Go.al.c_,Go.al.c_] ab.Ej.T:=cM ali bV Go.Proofs.Tryz.f13 [.tmp 4, .tmp 5] [Go.al.c_,Go.al.bT] (ct _) (Go.al.e8 ab.acW fun p q K bd=>cB (by kernel_rfl) (ab.VV p q K bd))
noncomputable def ahZ:bw:=b0 (P:=P) ((26,{ty:= .aB (.dB 11),elem:=41,bytes:=120,fz:=[.int .i64, .int .i64, .int .i64, .int .i64, .int .i64, .int .i64, .int .i64, .int .i64, .bool, .cu .u32, .cu .u32]})::b1) [] [] []
theorem S7:qG P 107 [Go.al.c_] ab.Du.T:=FL ahZ (DJ (by kernel_rfl) (by kernel_rfl) pA) Go.Proofs.Tryz.f107 2 Go.al.c_ (ys _) (Go.al.J9 ab.aa9 fun l K bd=>cB (by kernel_rfl) (ab.U_ l K bd))
noncomputable def alk:bw:=b0 (P:=P) b1 [⟨_,E8.n⟩,⟨_,S7.n⟩] [] []
theorem Uo:cr P 58 [Go.al.c_,Go.al.c_] ab.D9.T:=cM alk bV Go.Proofs.Tryz.f58 [.tmp 4] [Go.al.c_] (ct _) (Go.al.e8 ab.acK fun p q K bd=>cB (by kernel_rfl) (ab.WH p q K bd))
noncomputable def ah0:bw:=b0 (P:=P) b1 [] [(0,{bN:=[(0, .ao),(3, .aB (.int .i64)),(4, .aB (.int .i64))]})] [(7,{bN:=[(0, .ao)]})]
theorem ah1:cr P 163 [.aB (.cu .i64)] ab.EU.T:=cM ah0 bV Go.Proofs.Tryz.f163 [.tmp 2] [Go.al.bT] (ct _) (Go.al.gl ab.aeb fun a K bd=>cB (by kernel_rfl) (ab.VH a K bd))
noncomputable def ah2:bw:=b0 (P:=P) b1 [⟨_,ah1.n⟩] [(0,{bN:=[(3, .aB (.int .i64)),(6, .ao),(7, .ao),(8, .aB (.int .i64))]})] []
theorem ah3:cr P 128 [Go.al.c_] ab.Ed.T:=cM ah2 bV Go.Proofs.Tryz.f128 [.tmp 2] [Go.al.bT] (ct _) (Go.al.gl ab.acP fun p K bd=>cB (by kernel_rfl) (ab.WI p K bd))
noncomputable def alm:bw:=b0 (P:=P) b1 [⟨_,ah3.n⟩] [] []
theorem Up:cr P 78 [Go.al.c_] ab.Ch.T:=cM alm bV Go.Proofs.Tryz.f78 [.tmp 2, .tmp 3] [Go.al.c_,Go.al.bT] (ct _) (Go.al.gl ab.Ya fun p K bd=>cB (by kernel_rfl) (ab.Vv p K bd))
noncomputable def ah4:bw:=b0 (P:=P) b1 [⟨_,Ay.n⟩,⟨_,Az.n⟩,⟨_,Uo.n⟩,⟨_,Up.n⟩] [] []
theorem ah5:cr P 57 [Go.al.c_,Go.al.c_,Go.al.fH] (ab.zc.T 58):=cM ah4 bV Go.Proofs.Tryz.f57 [.tmp 6, .tmp 7] [Go.al.c_,Go.al.bT] (ct _) (Go.al.e8 (ab.acR 58) fun p q K bd=>cB (by kernel_rfl) (ab.Vn 58 p q K bd))
noncomputable def aln:bw:=b0 (P:=P) b1 [⟨_,ah5.n⟩] [] []
theorem alo:cr P 15 [Go.al.c_,Go.al.c_] ab.Ef.T:=cM aln bV Go.Proofs.Tryz.f15 [.tmp 4, .tmp 5] [Go.al.c_,Go.al.bT] (ct _) (Go.al.e8 ab.acT fun p q K bd=>cB (by kernel_rfl) (ab.VT p q K bd))
noncomputable def ah6:bw:=b0 (P:=P) b1 [⟨_,Ja.n⟩] [] [(8,{bN:=[(0, .ao),(4, .aB (.int .u64))]})]
theorem ah7:cr P 116 [Go.al.bT] ab.Bz.T:=cM ah6 bV Go.Proofs.Tryz.f116 [.tmp 2, .tmp 3] [Go.al.iy,Go.al.dk] (ct _) (Go.al.gl ab.WM fun n K bd=>cB (by kernel_rfl) (ab.WE n K bd))
noncomputable def alp:bw:=b0 (P:=P) b1 [⟨_,ah7.n⟩,⟨_,E6.n⟩,⟨_,zI.n⟩] [] []
theorem Ke:cr P 63 [Go.al.bT] ab.sU.T:=cM alp bV Go.Proofs.Tryz.f63 [.cell 2 39] [Go.al.e4] (ct _) (Go.al.gl ab.P8 fun n K bd=>cB (by kernel_rfl) (ab.adG n K bd))
noncomputable def ah8:bw:=b0 (P:=P) b1 [⟨_,S6.n⟩,⟨_,E8.n⟩,⟨_,S7.n⟩] [(0,{bN:=[(3, .ao),(5, .ao),(10, .ao),(11, .aB (.int .i64))],I:=[.ao, .ar 11]})] []
theorem ah9:cr P 130 [Go.al.c_,Go.al.e4] ab.CQ.T:=cM ah8 bV Go.Proofs.Tryz.f130 [.tmp 4] [Go.al.c_] (ct _) (Go.al.akH ab.Zn fun p s a b K bd=>cB (by kernel_rfl) (ab.V4 p s a b K bd))
noncomputable def ah_:bw:=b0 (P:=P) b1 [⟨_,Ke.n⟩,⟨_,ah9.n⟩] [] []
theorem aia:cr P 108 [Go.al.c_] ab.D_.T:=cM ah_ bV Go.Proofs.Tryz.f108 [.tmp 2] [Go.al.c_] (ct _) (Go.al.gl ab.acL fun p K bd=>cB (by kernel_rfl) (ab.WJ p K bd))
noncomputable def alq:bw:=b0 (P:=P) b1 [⟨_,Uo.n⟩,⟨_,aia.n⟩] [] []
theorem alr:cr P 59 [Go.al.c_,Go.al.c_] ab.Ea.T:=cM alq bV Go.Proofs.Tryz.f59 [.tmp 4] [Go.al.c_] (ct _) (Go.al.e8 ab.acM fun p q K bd=>cB (by kernel_rfl) (ab.WK p q K bd))
noncomputable def aib:bw:=b0 (P:=P) b1 [⟨_,Ay.n⟩,⟨_,Az.n⟩,⟨_,alr.n⟩,⟨_,Up.n⟩] [] []
theorem aic:cr P 57 [Go.al.c_,Go.al.c_,Go.al.fH] (ab.zd.T 59):=cM aib bV Go.Proofs.Tryz.f57 [.tmp 6, .tmp 7] [Go.al.c_,Go.al.bT] (ct _) (Go.al.e8 (ab.acS 59) fun p q K bd=>cB (by kernel_rfl) (ab.Vo 59 p q K bd))
noncomputable def als:bw:=b0 (P:=P) b1 [⟨_,aic.n⟩] [] []
theorem alu:cr P 16 [Go.al.c_,Go.al.c_] ab.Eg.T:=cM als bV Go.Proofs.Tryz.f16 [.tmp 4, .tmp 5] [Go.al.c_,Go.al.bT] (ct _) (Go.al.e8 ab.acU fun p q K bd=>cB (by kernel_rfl) (ab.VU p q K bd))
noncomputable def alv:bw:=b0 (P:=P) b1 [⟨_,Ke.n⟩] [] []
theorem alw:cr P 20 [Go.al.bT] ab.Ee.T:=cM alv bV Go.Proofs.Tryz.f20 [.tmp 2, .tmp 3] [Go.al.c_,Go.al.bT] (ct _) (Go.al.gl ab.acQ fun v K bd=>cB (by kernel_rfl) (ab.VS v K bd))
theorem aid:cr P 53 [Go.al.c_] ab.yK.T:=⟨ab.y2 Ay.s ab.aeK,ct _⟩
theorem aie:cr P 54 [Go.al.c_] ab.yA.T:=⟨ab.y2 Az.s ab.aec,ct _⟩
theorem aif:cr P 63 [Go.al.bT] ab.ze.T:=⟨ab.y2 Ke.s ab.agL,ct _⟩
theorem af7:cr P 101 [Go.al.e4] ab.y0.T:=⟨ab.y2 E7.s ab.afe,ct _⟩
noncomputable def aih:bw:=b0 (P:=P) b1 [⟨_,zI.n⟩,⟨_,xg.n⟩] [] []
theorem aii:cr P 205 [Go.al.e4] ab.DX.T:=cM aih bV Go.Proofs.Tryz.f205 [.cell 2 39] [Go.al.e4] (ct _) (Go.al.kx ab.acE fun s a b K bd=>cB (by kernel_rfl) (ab.adJ s a b K bd))
noncomputable def aij:bw:=b0 (P:=P) b1 [⟨_,Jb.n⟩,⟨_,aii.n⟩] [] []
theorem aik:cr P 189 [Go.al.e4,Go.al.e4] ab.DY.T:=cM aij bV Go.Proofs.Tryz.f189 [.cell 4 39] [Go.al.e4] (ct _) (Go.al.r2 ab.acF fun s a b t c d K bd=>cB (by kernel_rfl) (ab.adK s a b t c d K bd))
noncomputable def ail:bw:=b0 (P:=P) b1 [⟨_,E7.n⟩,⟨_,aik.n⟩] [] []
theorem aim:cr P 151 [Go.al.e4,Go.al.e4] ab.DZ.T:=cM ail bV Go.Proofs.Tryz.f151 [.tmp 4] [Go.al.bT] (ct _) (Go.al.r2 ab.acG fun s a b t c d K bd=>cB (by kernel_rfl) (ab.adM s a b t c d K bd))
noncomputable def ain:bw:=b0 (P:=P) b1 [⟨_,aim.n⟩] [] []
theorem aio:cr P 110 [Go.al.e4,Go.al.e4] ab.wD.T:=cM ain bV Go.Proofs.Tryz.f110 [.tmp 4] [Go.al.iy] (ct _) (Go.al.r2 ab.Zk fun s a b t c d K bd=>cB (by kernel_rfl) (ab.aaG s a b t c d K bd))
theorem af8:cr P 110 [Go.al.e4,Go.al.e4] ab.yL.T:=⟨ab.y2 aio.s ab.aeL,ct _⟩
noncomputable def aip:bw:=b0 (P:=P) b1 [] [(0,{bN:=[(0, .ao),(2, .aB (.int .i64)),(3, .aB (.int .i64))],I:=[.ad .u8]})] []
theorem aiq:gW P 191 [] ab.B1.T:=h6 aip bV Go.Proofs.Tryz.f191 [] [] (gZ _) (Go.al.FM ab.XU fun l K bd=>hZ (by kernel_rfl) (ab.Xn l K bd))
noncomputable def air:bw:=b0 (P:=P) b1 [⟨_,ql.d⟩,⟨_,SW.d⟩,⟨_,aiq.d⟩] [(0,{bN:=[(0, .aB (.cu .u32)),(3, .ao)],I:=[.ad .u8],conv:=[(3, .cu .u8)]}),(2,{bN:=[(0, .ao),(3, .ao),(4, .aB (.int .u32)),(15, .aB (.int .i64))],I:=[.ad .u8]})] []
theorem ais:cr P 152 [Go.al.dk] ab.CB.T:=cM air bV Go.Proofs.Tryz.f152 [.tmp 2] [Go.al.Kz] (ct _) (Go.al.gl ab.YL fun a K bd=>cB (by kernel_rfl) (ab.aar a K bd))
noncomputable def ait:bw:=b0 (P:=P) b1 [⟨_,xg.n⟩,⟨_,S0.n⟩,⟨_,ais.n⟩] [] [(13,{bN:=[(3, .ao),(4, .aB (.str))],I:=[.ao, .ao]})]
theorem aiu:cr P 111 [Go.al.e4] ab.B6.T:=cM ait bV Go.Proofs.Tryz.f111 [.tmp 2] [Go.al.Kz] (ct _) (Go.al.kx ab.X5 fun s a b K bd=>cB (by kernel_rfl) (ab.Y5 s a b K bd))
noncomputable def S8:bw:=b0 (P:=P) b1 [] [] []
noncomputable def S9:hr:=⟨S8,99999,114,5,109,114,20⟩
theorem af9 (K:J->Prop):sr S9 Go.Proofs.Tryz.f207.ntmps [.tmp 2] (Go.Proofs.Tryz.f207.body.getD .skip) [.d (.int .i64 2)] (mm [.aB .str] K)=ab.Gm K:=by kernel_rfl
theorem aiv:cr P 207 [Go.al.bT] ab.rh.T:=⟨by
 refine vW (X:=S9) bV (Go.Proofs.Tryz.builder S8 99999 20) (fn:=Go.Proofs.Tryz.f207) (c:=Go.Proofs.Tryz.f207.body.getD .skip) (by kernel_rfl) (by kernel_rfl) (by kernel_rfl) (rvs:=[.tmp 2]) (by kernel_rfl) (ts:=[.aB .str]) (by kernel_rfl) (fun args K aX=> ?_);obtain⟨rfl,aX⟩:=ab.Ic args K aX;rw[af9 K]
 exact ab.Ve K aX,(ct _)⟩
noncomputable def S_:bw:=b0 (P:=P) b1 [⟨_,aiv.d⟩] [] []
noncomputable def Ta:hr:=⟨S_,99999,114,5,109,114,20⟩
theorem af_ (K:J->Prop):sr Ta Go.Proofs.Tryz.f192.ntmps [.tmp 4] (Go.Proofs.Tryz.f192.body.getD .skip) [.d (.int .i64 2), .d (.int .i64 10)] (mm [.aB .str] K)=ab.Gl K:=by kernel_rfl
theorem aiw:cr P 192 [Go.al.bT,Go.al.bT] ab.yB.T:=⟨by
 refine vW (X:=Ta) bV (Go.Proofs.Tryz.builder S_ 99999 20) (fn:=Go.Proofs.Tryz.f192) (c:=Go.Proofs.Tryz.f192.body.getD .skip) (by kernel_rfl) (by kernel_rfl) (by kernel_rfl) (rvs:=[.tmp 4]) (by kernel_rfl) (ts:=[.aB .str]) (by kernel_rfl) (fun args K aX=> ?_);obtain⟨rfl,aX⟩:=ab.abg args K aX;rw[af_ K]
 exact ab.Va K aX,(ct _)⟩
noncomputable def Tb:bw:=b0 (P:=P) b1 [⟨_,aiw.d⟩] [] []
noncomputable def Tc:hr:=⟨Tb,99999,114,5,109,114,20⟩
theorem aga (K:J->Prop):sr Tc Go.Proofs.Tryz.f153.ntmps [.tmp 2] (Go.Proofs.Tryz.f153.body.getD .skip) [.d (.int .i64 2)] (mm [.aB .str] K)=ab.Ld K:=by kernel_rfl
theorem aix:cr P 153 [Go.al.bT] ab.rh.T:=⟨by
 refine vW (X:=Tc) bV (Go.Proofs.Tryz.builder Tb 99999 20) (fn:=Go.Proofs.Tryz.f153) (c:=Go.Proofs.Tryz.f153.body.getD .skip) (by kernel_rfl) (by kernel_rfl) (by kernel_rfl) (rvs:=[.tmp 2]) (by kernel_rfl) (ts:=[.aB .str]) (by kernel_rfl) (fun args K aX=> ?_);obtain⟨rfl,aX⟩:=ab.Ic args K aX;rw[aga K]
 exact ab.Vi K aX,(ct _)⟩
noncomputable def Td:bw:=b0 (P:=P) b1 [⟨_,aix.d⟩] [] []
noncomputable def Te:hr:=⟨Td,99999,114,5,109,114,20⟩
theorem agb (K:J->Prop):sr Te Go.Proofs.Tryz.f112.ntmps [.tmp 2] (Go.Proofs.Tryz.f112.body.getD .skip) [.d (.int .i64 2)] (mm [.aB .str] K)=ab.LY K:=by kernel_rfl
theorem aiy:cr P 112 [Go.al.bT] ab.rh.T:=⟨by
 refine vW (X:=Te) bV (Go.Proofs.Tryz.builder Td 99999 20) (fn:=Go.Proofs.Tryz.f112) (c:=Go.Proofs.Tryz.f112.body.getD .skip) (by kernel_rfl) (by kernel_rfl) (by kernel_rfl) (rvs:=[.tmp 2]) (by kernel_rfl) (ts:=[.aB .str]) (by kernel_rfl) (fun args K aX=> ?_);obtain⟨rfl,aX⟩:=ab.Ic args K aX;rw[agb K]
 exact ab.V6 K aX,(ct _)⟩
noncomputable def Tf:bw:=b0 (P:=P) b1 [] [] []
noncomputable def Tg:hr:=⟨Tf,99999,114,5,109,114,20⟩
theorem agc (x s:List Int)(K:J->Prop):sr Tg Go.Proofs.Tryz.f113.ntmps [.tmp 4] (Go.Proofs.Tryz.f113.body.getD .skip) [.d (.ar 1 [[.str x]]), .d (.str s)] (mm [.aB .str] K)=ab.Gp x s K:=by kernel_rfl
theorem aiz:cr P 113 [.aB (.dB 1),Go.al.Kz] ab.y1.T:=⟨by
 refine vW (X:=Tg) bV (Go.Proofs.Tryz.builder Tf 99999 20) (fn:=Go.Proofs.Tryz.f113) (c:=Go.Proofs.Tryz.f113.body.getD .skip) (by kernel_rfl) (by kernel_rfl) (by kernel_rfl) (rvs:=[.tmp 4]) (by kernel_rfl) (ts:=[.aB .str]) (by kernel_rfl) (fun args K aX=> ?_);obtain⟨x,s,rfl,aX⟩:=ab.aed args K aX;rw[agc x s K]
 exact ab.V7 x s K aX,(ct _)⟩
noncomputable def Uq:bw:=b0 (P:=P) b1 [⟨_,aid.d⟩,⟨_,aie.d⟩,⟨_,aif.d⟩,⟨_,af7.d⟩,⟨_,af8.d⟩,⟨_,aiu.d⟩,⟨_,aiy.d⟩,⟨_,aiz.d⟩] [] []
noncomputable def Ur:hr:=⟨Uq,6,114,5,109,114,20⟩
theorem aiA (K:J->Prop):sr Ur Go.Proofs.Tryz.f60.ntmps [.tmp 4, .tmp 5] (Go.Proofs.Tryz.f60.body.getD .skip) [.d (.ar 11 ab.qi), .d (.ar 1 ab.zD)] (mm [.aB .str, .aB (.int .i64)] K)=ab.Gn K:=by kernel_rfl
theorem alx:cr P 60 [Go.al.c_, .aB (.dB 1)] ab.yC.T:=⟨by
 refine vW (X:=Ur) bV (Go.Proofs.Tryz.builder Uq 6 20) (fn:=Go.Proofs.Tryz.f60) (c:=Go.Proofs.Tryz.f60.body.getD .skip) (by kernel_rfl) (by kernel_rfl) (by kernel_rfl) (rvs:=[.tmp 4, .tmp 5]) (by kernel_rfl) (ts:=[.aB .str, .aB (.int .i64)]) (by kernel_rfl) (fun args K aX=> ?_);obtain⟨rfl,aX⟩:=ab.abh args K aX;rw[aiA K]
 exact ab.VD K aX,(ct _)⟩
noncomputable def aly:bw:=b0 (P:=P) b1 [⟨_,alj.n⟩,⟨_,alo.n⟩,⟨_,alu.n⟩,⟨_,alw.n⟩,⟨_,alx.n⟩] [] []
theorem alz:cr P 18 [] ab.Cl.T:=cM aly bV Go.Proofs.Tryz.f18 [.tmp 0] [Go.al.iy] (ct _) (Go.al.akG ab.Yc fun K bd=>cB (by kernel_rfl) (ab.Vt K bd))
noncomputable def alA:bw:=b0 (P:=P) b1 [⟨_,Ay.n⟩,⟨_,Az.n⟩] [] []
theorem Us:cr P 64 [Go.al.c_,Go.al.bT] ab.DD.T:=cM alA bV Go.Proofs.Tryz.f64 [.tmp 4, .tmp 5] [Go.al.c_,Go.al.bT] (ct _) (Go.al.e8 ab.abb fun p v K bd=>cB (by kernel_rfl) (ab.Vf p v K bd))
noncomputable def alB:bw:=b0 (P:=P) b1 [⟨_,Us.n⟩,⟨_,Kd.n⟩] [] []
theorem alC:cr P 21 [Go.al.c_,Go.al.bT] ab.Ek.T:=cM alB bV Go.Proofs.Tryz.f21 [.tmp 4, .tmp 5] [Go.al.bT,Go.al.bT] (ct _) (Go.al.e8 ab.acX fun p v K bd=>cB (by kernel_rfl) (ab.VA p v K bd))
noncomputable def alD:bw:=b0 (P:=P) b1 [⟨_,Kd.n⟩,⟨_,E8.n⟩] [(0,{bN:=[(1, .ao),(5, .ao),(17, .ao),(18, .ao),(19, .aB (.int .i64))]}),(2,{bN:=[(9, .ao),(44, .ao),(45, .ao),(46, .aB (.int .i64))],I:=[.ar 1]})] []
theorem alE:IG P ⟨7,30,5,8,7,15,16,135,25,41,11⟩ (Go.Proofs.Tryz.f67.body.getD .skip):=⟨rfl,⟨_,rfl,rfl,rfl,rfl⟩,⟨_,rfl,rfl,rfl,rfl⟩,⟨trivial,⟨trivial,⟨trivial,⟨⟨trivial,⟨trivial,⟨trivial,⟨rfl,rfl,by kernel_rfl,⟨_,rfl,rfl,rfl,rfl⟩,⟨_,rfl,rfl,rfl,rfl⟩,⟨_,rfl,rfl,rfl,rfl⟩,⟨_,rfl,rfl,rfl,rfl⟩,⟨_,rfl,rfl,rfl,rfl⟩,⟨_,rfl,rfl,rfl,rfl⟩,⟨_,rfl,rfl,rfl,rfl⟩,⟨_,rfl,rfl,rfl,rfl⟩,⟨_,rfl,rfl,rfl,rfl⟩,⟨_,rfl,rfl,rfl,rfl⟩,⟨_,rfl,rfl,rfl,rfl⟩⟩⟩⟩⟩,trivial⟩⟩⟩⟩,by decide,_,_,rfl,rfl,rfl,rfl,by decide⟩
theorem alF:cr P 67 [Go.al.c_,Go.al.bT] ab.DF.T:=akF alD bV ⟨7,30,5,8,7,15,16,135,25,41,11⟩ Go.Proofs.Tryz.f67 [.tmp 4] [.aB (.dB 1)] (ct _) ⟨by kernel_rfl,by kernel_rfl,rfl,by decide,by decide,by kernel_rfl⟩ alE (Go.al.e8 ab.abe fun p v K bd=>aeG (by kernel_rfl) (ab.V5 p v K bd))
noncomputable def alG:bw:=b0 (P:=P) b1 [⟨_,Us.n⟩,⟨_,alF.n⟩] [] []
theorem alH:cr P 23 [Go.al.c_,Go.al.bT] ab.CW.T:=cM alG bV Go.Proofs.Tryz.f23 [.tmp 4, .tmp 5] [.aB (.dB 1),Go.al.bT] (ct _) (Go.al.e8 ab.Zu fun p v K bd=>cB (by kernel_rfl) (ab.VK p v K bd))
noncomputable def alI:bw:=b0 (P:=P) b1 [⟨_,Kc.n⟩] [] []
theorem alJ:cr P 24 [Go.al.bT] ab.Eo.T:=cM alI bV Go.Proofs.Tryz.f24 [.tmp 2, .tmp 3] [Go.al.c_,Go.al.bT] (ct _) (Go.al.gl ab.ac1 fun v K bd=>cB (by kernel_rfl) (ab.VB v K bd))
noncomputable def alK:bw:=b0 (P:=P) b1 [⟨_,FO.n⟩,⟨_,qk.n⟩] [] []
theorem FP:cr P 74 [Go.al.e4] ab.B7.T:=cM alK bV Go.Proofs.Tryz.f74 [.cell 2 39] [Go.al.e4] (ct _) (Go.al.kx ab.X6 fun s a b K bd=>cB (by kernel_rfl) (ab.acg s a b K bd))
noncomputable def alL:bw:=b0 (P:=P) b1 [⟨_,qk.d⟩] [(0,{bN:=[(0, .ao),(1, .ao),(5, .ao),(6, .aB (.int .i64))],I:=[.ad .u32]}),(2,{bN:=[(0, .ao),(1, .ao),(5, .ao),(6, .ao),(7, .aB (.int .u64)),(8, .aB (.int .i64))],I:=[.ad .u32]}),(4,{bN:=[(0, .ao),(1, .ao),(5, .ao),(6, .ao),(7, .aB (.int .u64)),(10, .aB (.int .i64))],I:=[.ad .u32]})] []
theorem Ut:cr P 75 [Go.al.dk,Go.al.dk] ab.CE.T:=cM alL bV Go.Proofs.Tryz.f75 [.tmp 4] [Go.al.dk] (ct _) (Go.al.e8 ab.YO fun a b K bd=>cB (by kernel_rfl) (ab.aaA a b K bd))
noncomputable def alM:bw:=b0 (P:=P) b1 [⟨_,qk.d⟩,⟨_,SS.d⟩] [(0,{bN:=[(1, .ao),(6, .ao),(7, .aB (.int .u64)),(8, .aB (.int .i64))],I:=[.ad .u32, .ad .u32]})] [(29,{bN:=[(1, .ao),(6, .ao),(8, .ao),(9, .aB (.int .u64))],I:=[.ao, .ao]})]
theorem alN:cr P 77 [Go.al.dk,Go.al.dk] ab.CF.T:=cM alM bV Go.Proofs.Tryz.f77 [.tmp 4, .tmp 5] [Go.al.dk,Go.al.bT] (ct _) (Go.al.e8 ab.YP fun a b K bd=>cB (by kernel_rfl) (ab.aa5 a b K bd))
noncomputable def alO:bw:=b0 (P:=P) b1 [⟨_,Uk.n⟩,⟨_,FP.n⟩,⟨_,Ut.n⟩,⟨_,FO.n⟩,⟨_,alN.n⟩] [] []
theorem alP:cr P 36 [Go.al.e4,Go.al.e4] ab.wY.T:=cM alO bV Go.Proofs.Tryz.f36 [.cell 4 39] [Go.al.e4] (ct _) (Go.al.r2 ab.P9 fun s a b t c d K bd=>cB (by kernel_rfl) (ab.adP s a b t c d K bd))
noncomputable def aiB:bw:=b0 (P:=P) b1 [] [(0,{bN:=[(2, .ao),(3, .ao),(5, .aB (.int .i64))],I:=[.ao, .ao]})] []
theorem aiC:cr P 119 [.arr 8 (.aB (.int .i64)) [.int .i64, .int .i64, .int .i64, .int .i64, .int .i64, .int .i64, .int .i64, .int .i64], .arr 8 (.aB (.int .i64)) [.int .i64, .int .i64, .int .i64, .int .i64, .int .i64, .int .i64, .int .i64, .int .i64]] ab.Cj.T:=cM aiB bV Go.Proofs.Tryz.f119 [.tmp 4] [Go.al.iy] (ct _) (Go.al.e8 ab.Ye fun a b K bd=>cB (by kernel_rfl) (ab.Vg a b K bd))
noncomputable def aiD:bw:=b0 (P:=P) b1 [⟨_,FP.n⟩] [] []
theorem Th:cr P 120 [Go.al.e4] ab.Dn.T:=cM aiD bV Go.Proofs.Tryz.f120 [.tmp 2] [Go.al.bT] (ct _) (Go.al.kx ab.aa2 fun s a b K bd=>cB (by kernel_rfl) (ab.ach s a b K bd))
noncomputable def alQ:bw:=b0 (P:=P) b1 [⟨_,alP.n⟩,⟨_,FP.n⟩,⟨_,aiC.n⟩,⟨_,Th.n⟩] [(0,{bN:=[(0, .ao),(3, .ao),(5, .aB (.int .i64)),(6, .aB (.int .i64))],I:=[.ao]})] [(46,{bN:=[(0, .ao),(3, .ao),(6, .aB (.int .i64)),(8, .ao)],I:=[.ar 11, .ar 11]})]
theorem Uu:cr P 69 [Go.al.c_, .struct [] [.int .i64, .int .i64, .int .i64, .int .i64, .int .i64, .int .i64, .int .i64, .int .i64, .bool, .cu .u32, .cu .u32]] ab.CS.T:=cM alQ bV Go.Proofs.Tryz.f69 [.tmp 4] [Go.al.c_] (ct _) (Go.al.e8 ab.Zr fun p t K bd=>cB (by kernel_rfl) (ab.Vk p t K bd))
noncomputable def alR:bw:=b0 (P:=P) b1 [⟨_,Uu.n⟩] [(0,{bN:=[(0, .ao),(3, .aB (.dB 11)),(4, .aB (.int .i64))]})] []
theorem Kf:cr P 30 [Go.al.c_] ab.Ck.T:=cM alR bV Go.Proofs.Tryz.f30 [.tmp 2] [Go.al.c_] (ct _) (Go.al.gl ab.Yf fun p K bd=>cB (by kernel_rfl) (ab.Vl p K bd))
noncomputable def alS:bw:=b0 (P:=P) b1 [] [(0,{bN:=[(0, .ao),(3, .aB (.int .i64))]}),(2,{bN:=[(0, .ao),(3, .ao),(4, .aB (.int .i64))]})] []
theorem alT:cr P 68 [Go.al.c_] ab.CU.T:=cM alS bV Go.Proofs.Tryz.f68 [.tmp 2] [Go.al.iy] (ct _) (Go.al.gl ab.Zv fun p K bd=>cB (by kernel_rfl) (ab.Vp p K bd))
noncomputable def alU:bw:=b0 (P:=P) b1 [⟨_,Un.n⟩,⟨_,Kf.n⟩,⟨_,alT.n⟩] [] []
theorem alV:cr P 25 [Go.al.c_] ab.BR.T:=cM alU bV Go.Proofs.Tryz.f25 [.tmp 2] [Go.al.iy] (ct _) (Go.al.gl ab.Xs fun p K bd=>cB (by kernel_rfl) (ab.Vd p K bd))
noncomputable def alW:bw:=b0 (P:=P) b1 [] [(0,{bN:=[(0, .ao),(1, .ao),(5, .aB (.int .i64)),(6, .aB (.int .i64))]})] []
theorem alX:cr P 26 [Go.al.c_,Go.al.bT] ab.En.T:=cM alW bV Go.Proofs.Tryz.f26 [.tmp 4] [Go.al.bT] (ct _) (Go.al.e8 ab.ac0 fun p v K bd=>cB (by kernel_rfl) (ab.Vc p v K bd))
noncomputable def alY:bw:=b0 (P:=P) b1 [⟨_,Uu.n⟩] [(0,{bN:=[(1, .ao),(5, .aB (.dB 11)),(6, .aB (.int .i64))]})] []
theorem Uv:cr P 27 [Go.al.c_,Go.al.c_] ab.Em.T:=cM alY bV Go.Proofs.Tryz.f27 [.tmp 4] [Go.al.c_] (ct _) (Go.al.e8 ab.acZ fun p q K bd=>cB (by kernel_rfl) (ab.VC p q K bd))
noncomputable def alZ:bw:=b0 (P:=P) b1 [⟨_,FP.n⟩,⟨_,Ut.n⟩,⟨_,FO.n⟩] [] []
theorem al0:cr P 37 [Go.al.e4,Go.al.e4] ab.wZ.T:=cM alZ bV Go.Proofs.Tryz.f37 [.cell 4 39] [Go.al.e4] (ct _) (Go.al.r2 ab.P_ fun s a b t c d K bd=>cB (by kernel_rfl) (ab.adQ s a b t c d K bd))
noncomputable def al1:bw:=b0 (P:=P) b1 [⟨_,al0.n⟩,⟨_,Th.n⟩] [(0,{bN:=[(0, .ao),(3, .ao),(5, .ao),(6, .aB (.int .i64))],I:=[.ao, .ar 11],conv:=[(5, .dB 11)]}),(2,{bN:=[(0, .ao),(3, .ao),(5, .ao),(6, .ao),(7, .ao),(8, .aB (.int .i64))],I:=[.ao, .ar 11, .ar 11]})] []
theorem al2:cr P 70 [Go.al.c_, .struct [] [.int .i64, .int .i64, .int .i64, .int .i64, .int .i64, .int .i64, .int .i64, .int .i64, .bool, .cu .u32, .cu .u32]] ab.CT.T:=cM al1 bV Go.Proofs.Tryz.f70 [.tmp 4] [Go.al.c_] (ct _) (Go.al.e8 ab.Zs fun p t K bd=>cB (by kernel_rfl) (ab.Vq p t K bd))
noncomputable def al3:bw:=b0 (P:=P) b1 [⟨_,Uv.n⟩,⟨_,al2.n⟩] [(0,{bN:=[(0, .ao),(1, .ao),(5, .aB (.dB 11)),(6, .aB (.int .i64))]})] []
theorem Uw:cr P 28 [Go.al.c_,Go.al.c_] ab.DG.T:=cM al3 bV Go.Proofs.Tryz.f28 [.tmp 4] [Go.al.c_] (ct _) (Go.al.e8 ab.abf fun p q K bd=>cB (by kernel_rfl) (ab.Vh p q K bd))
noncomputable def al4:bw:=b0 (P:=P) b1 [⟨_,Kf.n⟩] [] []
theorem al5:cr P 51 [Go.al.e4] ab.DC.T:=cM al4 bV Go.Proofs.Tryz.f51 [.tmp 2] [Go.al.c_] (ct _) (Go.al.kx ab.aa_ fun s a b K bd=>cB (by kernel_rfl) (ab.Vr s a b K bd))
noncomputable def al6:bw:=b0 (P:=P) b1 [⟨_,Kc.n⟩,⟨_,Uw.n⟩,⟨_,al5.n⟩] [(0,{bN:=[(0, .ao),(1, .ao),(5, .aB (.dB 11)),(6, .aB (.int .i64))]})] []
theorem al7:cr P 29 [Go.al.c_,Go.al.bT] ab.CV.T:=cM al6 bV Go.Proofs.Tryz.f29 [.tmp 4] [Go.al.c_] (ct _) (Go.al.e8 ab.Zt fun p n K bd=>cB (by kernel_rfl) (ab.Vs p n K bd))
end Go.Proofs.YtmeonjefiioegaaGreatDoor.S
