/- Helpers for the statements: each function keeps its contract. Condition: none. -/
import Derived.Test.YtmeonjefiioegaaGreatDoorProg
import Derived.Test.YtmeonjefiioegaaGreatDoorB2
section
namespace Go.Proofs
open Go.Shelf Go.RowKit
set_option maxHeartbeats 1000000 in
set_option maxRecDepth 100000 in
theorem Tryz.aaq (b:Nat)(w:World)(bc:w.cell? ⟨b,0,none⟩=some (.pointer (some ⟨b,0,none⟩))):
 Calls Tryz.prog 150 #[.pointer (some ⟨b,0,none⟩)] w fun e w'=>e= .returned (.tuple #[])/\w'=w:=by
 obtain⟨j,aI,_⟩:=Option.map_eq_some_iff.1 (show(Tryz.prog.info? 114).map (·.size)=some 2 by kernel_rfl)
 go_enter Tryz.func150,Tryz.ntmps150
 go_wp2
 rw[Lib.run_neq_ptr_same w _ Tryz.underlying111 aI]
 go_wp2
 go_end0
 exact⟨rfl,rfl⟩
set_option maxHeartbeats 1000000 in
set_option maxRecDepth 100000 in
theorem Tryz.Ze (b:Nat)(w:World)(bc:w.cell? ⟨b,0,none⟩=some (.pointer none))(Vs:w.shape? b=some (114,2))(ep:w.frozen? ⟨b,0,none⟩=false):
 Calls Tryz.prog 150 #[.pointer (some ⟨b,0,none⟩)] w fun e w'=>e= .returned (.tuple #[])/\w'=w.setCell ⟨b,0,none⟩ (.pointer (some ⟨b,0,none⟩)):=by
 obtain⟨j,aI,alM⟩:=Option.map_eq_some_iff.1 (show(Tryz.prog.info? 114).map (·.size)=some 2 by kernel_rfl)
 go_enter Tryz.func150,Tryz.ntmps150
 go_wp2
 rw[Lib.run_to_unsafe w ⟨b,0,none⟩ Tryz.underlying111 Tryz.underlying181 aI (by rw[alM];decide) Vs (Nat.zero_lt_succ 1)];simp only[Result.andThen];rw[Oper.upon_value]
 go_wp2
 rw[run_callFunc_extern Tryz.func188 (by kernel_rfl) (by kernel_rfl) (by kernel_rfl) (e:=Extern.AbiNoEscape.same) (by kernel_rfl)];rw[Lib.run_noEscape];simp only[Result.andThen];rw[Oper.upon_value]
 go_wp2
 rw[Lib.run_from_unsafe w ⟨b,0,none⟩ Tryz.underlying181 Tryz.underlying111 aI Vs (by kernel_rfl)];simp only[Result.andThen];rw[Oper.upon_value]
 go_wp2
 go_end0
 exact⟨rfl,rfl⟩
set_option maxHeartbeats 2000000 in
set_option maxRecDepth 100000 in
theorem Tryz.adS (b:Nat)(fi:List Value)(s:ByteArray)(w:World)(N:Nat->Prop)(h:lJ 114 5 b fi w N)(hlen:fi.length+s.size<=140737488355328):
 Calls Tryz.prog 109 #[.pointer (some ⟨b,0,none⟩), .string s] w fun r w'=>r= .returned (.tuple #[.int .i64 s.size, .nilIface])/\lJ 114 5 b (fi++Lib.strCells s) w' (fun x=>N x\/w.heap.size<=x)/\j_ N w w':=by
 obtain⟨p,v,aE,fg,hX,ah,fa,dn⟩:=h;obtain⟨i0,hi,AS,Ky,nd⟩:=info_parts (show(Tryz.prog.info? 5).map (fun i=>(i.zero,i.size,i.bytes))=some (some (.int .u8 0),1,1) by kernel_rfl)
 go_enter Tryz.func109,Tryz.ntmps109
 go_wp2_with (go_at_call 150;refine(adn Tryz.aaq Tryz.Ze aE ah fa dn).mono ?_)
 rintro r w1 ⟨rfl,tD,S_,lU⟩;have VW:w1.cell? ⟨b,0,none⟩=some (.pointer (some ⟨b,0,none⟩)):=by rw[Lib.cell_of_heap tD];rfl
 have dh:w1.cell? ⟨b,1,none⟩=some v:=by rw[Lib.cell_of_heap tD];rfl
 go_wp2_with (at_builtin;refine abJ rfl _ _ 112 9 rfl 5 i0 Tryz.underlying112 Tryz.underlying9 hi AS Ky nd _ _ _ rfl S_ s rfl hlen ?_)
 intro c8 dd Je u9 afG;have bL:b<w1.heap.size:=(arW.1 tD).1
 have ew:dd.heap[b]? =some (.cells #[.pointer (some ⟨b,0,none⟩),v] 114 (0,0)):=by
  rw[u9.block b bL (fun e=>dn e.symm)];exact tD
 have d0:dd.cell? ⟨b,0,none⟩=some (.pointer (some ⟨b,0,none⟩)):=by rw[Lib.cell_of_heap ew];rfl
 have d1:dd.cell? ⟨b,1,none⟩=some v:=by rw[Lib.cell_of_heap ew];rfl
 have f1:dd.frozen? ⟨b,1,none⟩=false:=Lib.frozen_of_heap ew 1;have TY:c8.ownBlock≠some b:=Lib.ownBlock_ne Je ew (by decide)
 obtain⟨GP,n',cap,rfl⟩:∃GP n' cap,c8= .slice GP n' cap:=by
  rcases Je.2 with⟨aO,_⟩|⟨g,cap,cur,aO,_⟩
  ·exact⟨_,_,_,aO⟩
  ·exact⟨_,_,_,aO⟩
 go_wp2
 go_ret2
 have tu:dd.grownBy (dd.setCell ⟨b,1,none⟩ (.slice GP n' cap)) (some b):=by
  refine⟨rfl,rfl,rfl,by simp[World.setCell],fun k _ ag=> ?_⟩;have:b≠k:=fun e=>ag (by rw[e]);simp[World.setCell,arF,this]
 refine⟨rfl,⟨.pointer (some ⟨b,0,none⟩), .slice GP n' cap, .inr rfl, .inl fg,fun g bh=> ?_,by simp[World.setCell,arF,ew], ?_,TY⟩, ?_⟩
 ·rcases afG g bh with bh|bh
  ·exact .inl (hX g bh)
  ·exact .inr (apS lU.size bh)
 ·rw[ap4,Lib.strCells_length];exact Je.kept tu (.inr TY)
 ·refine⟨tu.os.trans (u9.os.trans lU.os),tu.tape.trans (u9.tape.trans lU.tape),tu.output.trans (u9.output.trans lU.output),apS lU.size (apS u9.size tu.size),fun k ag hQ=> ?_⟩;have ab:some k≠some b:=fun e=>hQ (by cases e;exact fg);have ad:some k≠v.ownBlock:=fun e=>hQ (hX k e.symm);rw[tu.block k (apW ag (apS lU.size u9.size)) ab,u9.block k (apW ag lU.size) ad,lU.block k ag ab]
set_option maxHeartbeats 1000000 in
set_option maxRecDepth 100000 in
theorem Tryz.ach (b:Nat)(l:List UInt8)(w:World)(N:Nat->Prop)(h:lJ 114 5 b (Lib.byteCells l) w N)(bc:l≠[]):
 Calls Tryz.prog 114 #[.pointer (some ⟨b,0,none⟩)] w fun r w'=>r= .returned (.string ⟨l.toArray⟩)/\j_ N w w':=by
 obtain⟨p,v,aE,fg,hX,tD,fa,dn⟩:=h;have pC:l.length≠0:=by simpa using bc
 rw[Lib.byteCells_length]at fa
 obtain⟨g,cap,cur,rfl,bh,nA,pG,j6⟩:∃g cap cur,v= .slice (some ⟨g,0,none⟩) l.length cap/\w.heap[g]? =some (.cells cur 5 (0,0))/\l.length<=cap/\cap<=maxLen/\cur.size=cap*1:=by
  rcases fa.2 with⟨_,bm⟩|⟨g,cap,cur,aO,_,dX,dU,dR,mH,_⟩
  ·exact absurd bm pC
  ·exact⟨g,cap,cur,aO,dX,dU,dR,mH⟩
 have qE:w.drew.heap[b]? =some (.cells #[p, .slice (some ⟨g,0,none⟩) l.length cap] 114 (0,0)):=tD;have pr:w.drew.heap[g]? =some (.cells cur 5 (0,0)):=bh;have dh:w.drew.cell? ⟨b,1,none⟩=some (.slice (some ⟨g,0,none⟩) l.length cap):=by rw[Lib.cell_of_heap qE];rfl
 have apb:(Builtin.unsafeSliceData_ #[112] 160 #[.slice (some ⟨g,0,none⟩) l.length cap]).run Tryz.prog w.drew= .ok (.pointer (some ⟨g,0,none⟩)) w.drew:=
  Lib.run_unsafeSliceData_row _ _ _ _ _ _ (by omega)
 have apc:(Builtin.unsafeString_ #[160,3] 9 #[.pointer (some ⟨g,0,none⟩), .int .i64 l.length]).run Tryz.prog w.drew= .ok (.string ⟨l.toArray⟩) (w.drew.freeze ⟨g,0,none⟩ l.length):=by
  refine Lib.run_unsafeString_row w.drew 160 3 9 5 Tryz.underlying160 (by kernel_rfl) g cur.size (by simp[World.shape?,pr]) l bc (by omega) (by unfold maxLen at pG;omega) fun j x aj=> ?_;exact fa.cells (g:=g) rfl j (.int .u8 x.toNat) (by simp[Lib.byteCells,aj])
 have cy:j_ N w (w.drew.freeze ⟨g,0,none⟩ l.length):=by
  unfold World.freeze
  have alN:∀k,¬N k->g≠k:=fun k ag e=>ag (e▸hX g rfl)
  split
  ·exact⟨rfl,rfl,rfl,apF _,fun _ _ _=>rfl⟩
  ·refine⟨rfl,rfl,rfl,by simp,fun k ag hQ=> ?_⟩;simp[arF,alN k hQ];rfl
 have mixed:Tryz.prog.follows .mixedOrders=true:=by kernel_rfl
 go_enter Tryz.func114,Tryz.ntmps114
 go_wp2
 go_region_o
 all_goals (go_wp2;go_ret;exact⟨rfl,cy⟩)
theorem Tryz.builder (E:ak.bA)(β fuel:Nat):ak.Am Tryz.prog ⟨E,β,114,5,109,114,fuel⟩where
 write:=Tryz.adS
 read:=Tryz.ach
 zero:=Tryz.zeroValue114
 UY:=⟨_,Tryz.func109,rfl,by kernel_rfl⟩
 UZ:=⟨_,Tryz.func114,rfl,by kernel_rfl⟩
end Go.Proofs
end
open Go Go.ak
set_option maxRecDepth 1000000
namespace Go.Proofs.YtmeonjefiioegaaGreatDoor.S
noncomputable abbrev P:Program:=Go.Proofs.Tryz.prog
def b3:List (Nat×b7):=[(1,{ty:= .aG (.other)}),
(2,{ty:= .aG (.int .i64)}),
(3,{ty:= .aG (.int .i64)}),
(4,{ty:= .aG (.bool)}),
(5,{ty:= .aG (.int .u8)}),
(9,{ty:= .aG (.str)}),
(12,{ty:= .aG (.int .u64)}),
(22,{ty:= .aG (.cp .i64),elem:=3,bytes:=8,fv:=[.int .i64],lit:=true}),
(23,{ty:= .aG (.other)}),
(25,{ty:= .aG (.dK 11),elem:=41,bytes:=120,fv:=[.int .i64, .int .i64, .int .i64, .int .i64, .int .i64, .int .i64, .int .i64, .int .i64, .bool, .cp .u32, .cp .u32],lit:=true}),
(26,{ty:= .aG (.dK 11),elem:=41,bytes:=120,fv:=[.int .i64, .int .i64, .int .i64, .int .i64, .int .i64, .int .i64, .int .i64, .int .i64, .bool, .cp .u32, .cp .u32],lit:=true}),
(28,{ty:= .aG (.int .i64)}),
(36,{ty:= .arr 8 (.aG (.int .i64)) [.int .i64, .int .i64, .int .i64, .int .i64, .int .i64, .int .i64, .int .i64, .int .i64]}),
(37,{ty:= .aG (.cp .u32),elem:=84,bytes:=4,fv:=[.int .u32],lit:=true}),
(39,{ty:= .struct [(0,1, .aG (.bool)),(1,1, .aG (.cp .u32)),(2,1, .aG (.cp .u32))] [.bool, .cp .u32, .cp .u32]}),
(41,{ty:= .struct [(0,8, .arr 8 (.aG (.int .i64)) [.int .i64, .int .i64, .int .i64, .int .i64, .int .i64, .int .i64, .int .i64, .int .i64]),(8,3, .struct [(0,1, .aG (.bool)),(1,1, .aG (.cp .u32)),(2,1, .aG (.cp .u32))] [.bool, .cp .u32, .cp .u32])] [.int .i64, .int .i64, .int .i64, .int .i64, .int .i64, .int .i64, .int .i64, .int .i64, .bool, .cp .u32, .cp .u32]}),
(49,{ty:= .aG (.dK 1),elem:=26,bytes:=24,fv:=[.dK 11],lit:=true}),
(54,{ty:= .aG (.other)}),
(58,{ty:= .aG (.dK 3),elem:=39,bytes:=56,fv:=[.bool, .cp .u32, .cp .u32],lit:=true}),
(75,{ty:= .struct [(0,1, .aG (.cp .i64)),(1,1, .aG (.int .i64)),(2,1, .aG (.int .i64))] [.cp .i64, .int .i64, .int .i64]}),
(81,{ty:= .aG (.dK 1),elem:=9,bytes:=16,fv:=[.str],lit:=true}),
(84,{ty:= .aG (.int .u32)}),
(101,{ty:= .aG (.other),mp:=some (8,36,39)}),
(102,{ty:= .aG (.dK 8),elem:=36,bytes:=64,fv:=[.int .i64, .int .i64, .int .i64, .int .i64, .int .i64, .int .i64, .int .i64, .int .i64],lit:=true}),
(106,{ty:= .aG (.other)}),
(108,{ty:= .struct [(0,1, .aG (.bool))] [.bool]}),
(112,{ty:= .aG (.cp .u8),elem:=5,bytes:=1,fv:=[.int .u8],lit:=true}),
(114,{ty:= .struct [(0,1, .aG (.other)),(1,1, .aG (.cp .u8))] [.other, .cp .u8]}),
(124,{ty:= .aG (.int .u64)}),
(125,{ty:= .aG (.int .u64)}),
(129,{ty:= .struct [(0,1, .aG (.bool))] [.bool]}),
(131,{ty:= .struct [(0,1, .aG (.cp .u32)),(1,1, .aG (.cp .u32))] [.cp .u32, .cp .u32]}),
(133,{ty:= .struct [(0,1, .struct [(0,1, .aG (.bool))] [.bool]),(1,2, .struct [(0,1, .aG (.cp .u32)),(1,1, .aG (.cp .u32))] [.cp .u32, .cp .u32])] [.bool, .cp .u32, .cp .u32]}),
(135,{ty:= .aG (.dK 1),elem:=25,bytes:=24,fv:=[.dK 11],lit:=true}),
(152,{ty:= .aG (.other),mp:=some (8,36,3)}),
(155,{ty:= .aG (.other)}),
(157,{ty:= .struct [(0,1, .aG (.int .i64))] [.int .i64]}),
(172,{ty:= .aG (.int .i64)}),
(189,{ty:= .aG (.int .u64)}),
(193,{ty:= .aG (.other)}),
(196,{ty:= .arr 24 (.aG (.int .u8)) [.int .u8, .int .u8, .int .u8, .int .u8, .int .u8, .int .u8, .int .u8, .int .u8, .int .u8, .int .u8, .int .u8, .int .u8, .int .u8, .int .u8, .int .u8, .int .u8, .int .u8, .int .u8, .int .u8, .int .u8, .int .u8, .int .u8, .int .u8, .int .u8]}),
(202,{ty:= .aG (.other)})]
theorem kE:Tl P b3=true:=by kernel_rfl
theorem pN:P.follows .mixedOrders=true:=by kernel_rfl
theorem bZ {L:sb P}{h m:List (Nat×Head)}(ba:xf (rJ L)=true:=by kernel_rfl):gn P (b2 b3 L h m):=Ej kE ba pN
noncomputable def alO:bA:=b2 (P:=P) b3 [] [] []
theorem alP:we P 11 [.aG (.cp .i64)] aa.DW.T:=ak8 alO bZ Go.Proofs.Tryz.f11 2 (y2 _) (Go.ak.Ku aa.abF fun l K bg=>cM (by kernel_rfl) (aa.adk l K bg))
noncomputable def alQ:bA:=b2 (P:=P) b3 [] [] []
theorem alR:hh P 99 [] aa.DX.T:=ij alQ bZ Go.Proofs.Tryz.f99 [.tmp 2] [Go.ak.bU] (gQ _) (Go.ak.k9 aa.abG fun l a s K bg=>h8 (by kernel_rfl) (aa.W2 l a s K bg))
noncomputable def alS:bA:=b2 (P:=P) b3 [⟨_,alR.d⟩] [] []
theorem Bh:hh P 52 [Go.ak.bU] aa.Fc.T:=ij alS bZ Go.Proofs.Tryz.f52 [.tmp 4] [Go.ak.bU] (gQ _) (Go.ak.nf aa.aeG fun l a s n K bg=>h8 (by kernel_rfl) (aa.XJ l a s n K bg))
noncomputable def alT:bA:=b2 (P:=P) b3 [⟨_,Bh.d⟩] [] []
theorem Vt:hh P 43 [Go.ak.bU,Go.ak.bU] aa.CP.T:=ij alT bZ Go.Proofs.Tryz.f43 [.tmp 6] [Go.ak.bU] (gQ _) (Go.ak.F0 aa.Y7 fun l a s x y K bg=>h8 (by kernel_rfl) (aa.WN l a s x y K bg))
noncomputable def ahI:bA:=b2 (P:=P) b3 [] [(0,{bR:=[(0, .aq),(3, .aG (.int .i64))]})] []
theorem qB:qZ P 115 [Go.ak.dk] aa.CK.T:=Gc ahI bZ Go.Proofs.Tryz.f115 2 Go.ak.dk (y2 _) (Go.ak.Ku aa.YW fun a K bg=>cM (by kernel_rfl) (aa.ZS a K bg))
noncomputable def alU:bA:=b2 (P:=P) b3 [⟨_,qB.d⟩] [] []
theorem alV:cF P 61 [Go.ak.bU] aa.Ca.T:=cY alU bZ Go.Proofs.Tryz.f61 [.tmp 2, .tmp 3] [Go.ak.dk,Go.ak.bU] (cJ _) (Go.ak.hb aa.Xk fun n K bg=>cM (by kernel_rfl) (aa.XQ n K bg))
noncomputable def alW:bA:=b2 (P:=P) b3 [⟨_,qB.d⟩] [(0,{bR:=[(0, .aq),(1, .aq),(5, .aq),(6, .aG (.int .u64)),(7, .aG (.int .i64))],I:=[.af .u32]})] [(24,{bR:=[(0, .aq),(1, .aq),(5, .aq),(6, .aG (.int .u64)),(7, .aq)],I:=[.aq]}),(35,{bR:=[(0, .aq),(1, .aq),(5, .aq),(6, .aG (.int .u64)),(7, .aq)],I:=[.aq]})]
theorem Vu:cF P 62 [Go.ak.dk,Go.ak.dk] aa.De.T:=cY alW bZ Go.Proofs.Tryz.f62 [.tmp 4] [Go.ak.dk] (cJ _) (Go.ak.gm aa.ZL fun a b K bg=>cM (by kernel_rfl) (aa.abu a b K bg))
noncomputable def alX:bA:=b2 (P:=P) b3 [⟨_,alV.n⟩,⟨_,Vu.n⟩] [] []
theorem alY:cF P 19 [Go.ak.bU] aa.ta.T:=cY alX bZ Go.Proofs.Tryz.f19 [.cell 2 39] [Go.ak.ev] (cJ _) (Go.ak.hb aa.Q5 fun n K bg=>cM (by kernel_rfl) (aa.aez n K bg))
noncomputable def ahJ:bA:=b2 (P:=P) b3 [⟨_,qB.d⟩] [(0,{bR:=[(0, .aq),(1, .aq),(5, .aG (.int .i64))],I:=[.aq, .aq]})] []
theorem TZ:cF P 127 [Go.ak.dk,Go.ak.dk] aa.Dd.T:=cY ahJ bZ Go.Proofs.Tryz.f127 [.tmp 4] [Go.ak.bU] (cJ _) (Go.ak.gm aa.ZK fun a b K bg=>cM (by kernel_rfl) (aa.abt a b K bg))
noncomputable def ahK:bA:=b2 (P:=P) b3 [⟨_,qB.d⟩] [(0,{bR:=[(0, .aq),(1, .aq),(6, .aq),(7, .aG (.int .u64)),(8, .aG (.int .i64))],I:=[.af .u32]})] []
theorem ahL:cF P 159 [Go.ak.dk, .aG (.int .u32)] aa.Cu.T:=cY ahK bZ Go.Proofs.Tryz.f159 [.tmp 4, .tmp 5] [Go.ak.dk, .aG (.int .u32)] (cJ _) (Go.ak.gm aa.Yf fun a d K bg=>cM (by kernel_rfl) (aa.YY a d K bg))
noncomputable def ahM:bA:=b2 (P:=P) b3 [] [(0,{bR:=[(0, .aq),(1, .aq),(5, .aq),(6, .aG (.int .u64)),(7, .aG (.int .i64))],I:=[.af .u32]})] []
theorem ahN:qZ P 160 [Go.ak.dk,Go.ak.bU] aa.Cv.T:=Gc ahM bZ Go.Proofs.Tryz.f160 4 Go.ak.dk (y2 _) (Go.ak.UF aa.Yg fun a k K bg=>cM (by kernel_rfl) (aa.Y9 a k K bg))
noncomputable def ahO:bA:=b2 (P:=P) b3 [] [(0,{bR:=[(0, .aq),(1, .aq),(2, .aq),(7, .aq),(9, .aG (.int .u64)),(10, .aG (.int .u64))],I:=[.aq]}),(2,{bR:=[(0, .aq),(1, .aq),(2, .aq),(7, .aq),(9, .aq),(11, .aG (.int .u64)),(12, .aG (.int .u64)),(13, .aG (.int .i64))],I:=[.af .u32]}),(4,{bR:=[(0, .aq),(1, .aq),(2, .aq),(7, .aq),(9, .aq),(12, .aG (.int .u64)),(17, .aG (.int .i64))],I:=[.af .u32]})] [(100000,{bR:=[(0, .aq),(1, .aq),(2, .aq),(7, .aq),(9, .aG (.int .u64))],I:=[.aq]}),(102,{bR:=[(0, .aq),(1, .aq),(2, .aq),(7, .aq),(9, .aq),(11, .aq),(13, .aq),(14, .aG (.int .u64))],I:=[.aq]}),(127,{bR:=[(0, .aq),(1, .aq),(2, .aq),(7, .aq),(9, .aq),(11, .aG (.int .u64)),(12, .aq),(13, .aq),(15, .aq),(16, .aG (.int .u64))],I:=[.aq]}),(159,{bR:=[(0, .aq),(1, .aq),(2, .aq),(7, .aq),(9, .aq),(17, .aq),(18, .aG (.int .u64))],I:=[.aq]})]
theorem ahP:hh P 161 [Go.ak.dk,Go.ak.bU] aa.Cw.T:=ij ahO bZ Go.Proofs.Tryz.f161 [.tmp 6] [.aG (.int .u32)] (gQ _) (Go.ak.k9 aa.Yh fun u v j K bg=>h8 (by kernel_rfl) (aa.YZ u v j K bg))
noncomputable def ahQ:bA:=b2 (P:=P) b3 [⟨_,qB.d⟩] [(0,{bR:=[(0, .aq),(1, .aq),(5, .aq),(6, .aG (.int .i64))],I:=[.af .u32]})] [(26,{bR:=[(0, .aq),(1, .aq),(5, .aq),(6, .aq),(7, .aG (.int .u64))],I:=[.aq]})]
theorem ahR:cF P 162 [Go.ak.dk,Go.ak.bU] aa.Cb.T:=cY ahQ bZ Go.Proofs.Tryz.f162 [.tmp 4] [Go.ak.dk] (cJ _) (Go.ak.gm aa.Xl fun a k K bg=>cM (by kernel_rfl) (aa.XR a k K bg))
noncomputable def ahS:bA:=b2 (P:=P) b3 [⟨_,qB.n⟩,⟨_,TZ.n⟩,⟨_,ahL.n⟩,⟨_,ahN.n⟩,⟨_,ahP.d⟩,⟨_,ahR.n⟩] [(0,{bR:=[(0, .aq),(1, .aq),(9, .aG (.int .i64))],I:=[.aq, .aq]}),(2,{bR:=[(9, .aq),(10, .aq),(11, .aG (.cp .u32)),(12, .aq),(13, .aG (.int .i64))],I:=[.aq, .aq, .af .u32, .aq, .aq, .af .u32],conv:=[(11, .other)]})] []
theorem T0:cF P 126 [Go.ak.dk,Go.ak.dk] aa.Cf.T:=cY ahS bZ Go.Proofs.Tryz.f126 [.tmp 4, .tmp 5, .tmp 6] [Go.ak.dk,Go.ak.dk,Go.ak.bU] (cJ _) (Go.ak.gm aa.XF fun a b K bg=>cM (by kernel_rfl) (aa.XH a b K bg))
noncomputable def ahT:bA:=b2 (P:=P) b3 [⟨_,qB.n⟩,⟨_,T0.n⟩] [(0,{bR:=[(0, .aG (.cp .u32)),(1, .aG (.cp .u32))],I:=[.aq, .aq],conv:=[(0, .other),(1, .other)]})] []
theorem ahU:cF P 125 [Go.ak.dk,Go.ak.dk] aa.Dh.T:=cY ahT bZ Go.Proofs.Tryz.f125 [.tmp 4] [Go.ak.dk] (cJ _) (Go.ak.gm aa.ZO fun a b K bg=>cM (by kernel_rfl) (aa.ZZ a b K bg))
noncomputable def alZ:bA:=b2 (P:=P) b3 [⟨_,ahU.n⟩,⟨_,T0.n⟩] [] []
theorem Gh:cF P 76 [Go.ak.jC,Go.ak.dk,Go.ak.dk] aa.Dl.T:=cY alZ bZ Go.Proofs.Tryz.f76 [.cell 6 39] [Go.ak.ev] (cJ _) (Go.ak.jO aa.aaj fun s a b K bg=>cM (by kernel_rfl) (aa.Z6 s a b K bg))
noncomputable def al0:bA:=b2 (P:=P) b3 [⟨_,alY.n⟩,⟨_,Gh.n⟩] [] []
theorem al1:cF P 89 [Go.ak.bU,Go.ak.bU] aa.Ex.T:=cY al0 bZ Go.Proofs.Tryz.f89 [.cell 4 39, .tmp 5] [Go.ak.ev,Go.ak.bU] (cJ _) (Go.ak.gm aa.ady fun n d K bg=>cM (by kernel_rfl) (aa.aeA n d K bg))
noncomputable def al2:bA:=b2 (P:=P) b3 [⟨_,Vt.n⟩,⟨_,al1.n⟩] [] []
theorem K7:hh P 44 [] aa.D0.T:=ij al2 bZ Go.Proofs.Tryz.f44 [.cell 2 39] [Go.ak.ev] (gQ _) (Go.ak.k9 aa.ab1 fun l a s K bg=>h8 (by kernel_rfl) (aa.W3 l a s K bg))
noncomputable def al3:bA:=b2 (P:=P) b3 [⟨_,Bh.d⟩] [] []
theorem Vv:hh P 45 [.aG (.cp .i64)] aa.Di.T:=ij al3 bZ Go.Proofs.Tryz.f45 [.tmp 4] [Go.ak.bU] (gQ _) (Go.ak.nf aa.Z7 fun l a s m K bg=>h8 (by kernel_rfl) (aa.WY l a s m K bg))
noncomputable def al4:bA:=b2 (P:=P) b3 [⟨_,Vv.d⟩,⟨_,Bh.d⟩] [(0,{bR:=[(0, .aq),(3, .aq),(4, .aG (.int .i64))],I:=[.cells [.cp .i64, .int .i64, .int .i64], .af .u32],conv:=[(3, .cp .u32)]})] []
theorem al5:hh P 90 [] aa.CL.T:=ij al4 bZ Go.Proofs.Tryz.f90 [.tmp 2] [Go.ak.dk] (gQ _) (Go.ak.k9 aa.Y1 fun l a s K bg=>h8 (by kernel_rfl) (aa.WM l a s K bg))
noncomputable def al6:bA:=b2 (P:=P) b3 [⟨_,Vt.n⟩,⟨_,K7.n⟩,⟨_,Bh.n⟩,⟨_,al5.n⟩] [] []
theorem al7:hh P 46 [] aa.CQ.T:=ij al6 bZ Go.Proofs.Tryz.f46 [.cell 2 39] [Go.ak.ev] (gQ _) (Go.ak.k9 aa.Y8 fun l a s K bg=>h8 (by kernel_rfl) (aa.WO l a s K bg))
noncomputable def al8:bA:=b2 (P:=P) b3 [⟨_,K7.n⟩,⟨_,Vv.n⟩,⟨_,al7.n⟩,⟨_,Bh.n⟩] [(0,{bR:=[(0, .aq),(1, .aq),(7, .aq),(8, .aG (.int .i64))],I:=[.cells [.cp .i64, .int .i64, .int .i64], .ar 11],conv:=[(7, .dK 11)]}),(2,{bR:=[(0, .aq),(1, .aq),(7, .aq),(8, .aq),(9, .aq),(10, .aG (.int .i64))],I:=[.cells [.cp .i64, .int .i64, .int .i64], .ar 11, .ar 11]})] [(24,{bR:=[(0, .aq),(1, .aq),(7, .aq),(8, .aq),(9, .aq)],I:=[.cells [.cp .i64, .int .i64, .int .i64], .ar 11, .ar 11]})]
theorem al9:hh P 12 [Go.ak.bU,Go.ak.bU] aa.Du.T:=ij al8 bZ Go.Proofs.Tryz.f12 [.tmp 6] [Go.ak.dT] (gQ _) (Go.ak.F0 aa.aao fun l a s v n K bg=>h8 (by kernel_rfl) (aa.W0 l a s v n K bg))
noncomputable def al_:bA:=b2 (P:=P) b3 [] [(0,{bR:=[(7, .aq),(8, .aq),(9, .aG (.int .i64))]}),(2,{bR:=[(7, .aq),(8, .aq),(9, .aq),(14, .aq),(15, .aG (.int .i64))],I:=[.aq]})] []
theorem vO:cF P 53 [Go.ak.dT] aa.xe.T:=cY al_ bZ Go.Proofs.Tryz.f53 [.tmp 2] [Go.ak.jC] (cJ _) (Go.ak.hb aa.ab7 fun p K bg=>cM (by kernel_rfl) (aa.WI p K bg))
noncomputable def ahV:bA:=b2 (P:=P) b3 [] [] []
theorem Au:cF P 118 [Go.ak.ev] aa.Fg.T:=cY ahV bZ Go.Proofs.Tryz.f118 [.cell 2 39] [Go.ak.ev] (cJ _) (Go.ak.jO aa.aeZ fun s a b K bg=>cM (by kernel_rfl) (aa.WK s a b K bg))
noncomputable def ahW:bA:=b2 (P:=P) b3 [] [(0,{bR:=[(0, .aG (.cp .u32))]})] []
theorem qC:cF P 173 [Go.ak.dk] aa.Et.T:=cY ahW bZ Go.Proofs.Tryz.f173 [.tmp 2] [Go.ak.dk] (cJ _) (Go.ak.hb aa.acN fun a K bg=>cM (by kernel_rfl) (aa.aeg a K bg))
noncomputable def ahX:bA:=b2 (P:=P) ((37,{ty:= .aG (.cp .u32),elem:=84,bytes:=4,fv:=[.int .u32]})::b3) [] [] []
theorem T1:cF P 194 [Go.ak.dk] aa.DS.T:=cY ahX (Ej (by kernel_rfl) (by kernel_rfl) pN) Go.Proofs.Tryz.f194 [.tmp 2] [Go.ak.dk] (cJ _) (Go.ak.hb aa.abf fun a K bg=>cM (by kernel_rfl) (aa.ZP a K bg))
noncomputable def ahY:bA:=b2 (P:=P) b3 [⟨_,qC.d⟩,⟨_,T1.d⟩] [] []
theorem J4:cF P 155 [Go.ak.dk] aa.Eu.T:=cY ahY bZ Go.Proofs.Tryz.f155 [.tmp 2] [Go.ak.dk] (cJ _) (Go.ak.hb aa.acO fun a K bg=>cM (by kernel_rfl) (aa.aeh a K bg))
noncomputable def ahZ:bA:=b2 (P:=P) b3 [⟨_,qC.d⟩] [(0,{bR:=[(0, .aq),(1, .aq),(5, .aG (.int .i64))]})] []
theorem Fz:cF P 171 [Go.ak.dk,Go.ak.dk] aa.E9.T:=cY ahZ bZ Go.Proofs.Tryz.f171 [.tmp 4] [Go.ak.bU] (cJ _) (Go.ak.gm aa.aeb fun a b K bg=>cM (by kernel_rfl) (aa.afi a b K bg))
noncomputable def ah0:bA:=b2 (P:=P) b3 [] [] [(15,{bR:=[(0, .aq),(1, .aq),(2, .aq)]})]
theorem ah1:cF P 206 [.aG (.int .u32), .aG (.int .u32), .aG (.int .u32)] aa.DR.T:=cY ah0 bZ Go.Proofs.Tryz.f206 [.tmp 6, .tmp 7] [.aG (.int .u32), .aG (.int .u32)] (cJ _) (Go.ak.jO aa.abe fun h l y K bg=>cM (by kernel_rfl) (aa.Yk h l y K bg))
noncomputable def ah2:bA:=b2 (P:=P) b3 [⟨_,qC.d⟩,⟨_,ah1.d⟩] [(0,{bR:=[(0, .aq),(1, .aq),(6, .aq),(7, .aG (.int .u32)),(8, .aG (.int .i64))],I:=[.af .u32]})] []
theorem T2:cF P 190 [Go.ak.dk, .aG (.int .u32)] aa.DT.T:=cY ah2 bZ Go.Proofs.Tryz.f190 [.tmp 4, .tmp 5] [Go.ak.dk, .aG (.int .u32)] (cJ _) (Go.ak.gm aa.abg fun a d K bg=>cM (by kernel_rfl) (aa.acR a d K bg))
noncomputable def ah3:bA:=b2 (P:=P) b3 [⟨_,qC.d⟩] [] []
theorem T3:cF P 196 [.aG (.int .u64)] aa.Ct.T:=cY ah3 bZ Go.Proofs.Tryz.f196 [.tmp 2] [Go.ak.dk] (cJ _) (Go.ak.hb aa.Ye fun u K bg=>cM (by kernel_rfl) (aa.YX u K bg))
noncomputable def ah4:bA:=b2 (P:=P) b3 [] [] [(4,{bR:=[(0, .aG (.int .u32)),(2, .aG (.int .i64))]})]
theorem T4:cF P 184 [.aG (.int .u32)] aa.DU.T:=cY ah4 bZ Go.Proofs.Tryz.f184 [.tmp 2] [Go.ak.bU] (cJ _) (Go.ak.hb aa.abh fun x K bg=>cM (by kernel_rfl) (aa.Yn x K bg))
noncomputable def ah5:bA:=b2 (P:=P) b3 [⟨_,T4.d⟩] [] []
theorem ah6:cF P 212 [.aG (.int .u32)] aa.CJ.T:=cY ah5 bZ Go.Proofs.Tryz.f212 [.tmp 2] [Go.ak.bU] (cJ _) (Go.ak.hb aa.YV fun x K bg=>cM (by kernel_rfl) (aa.Wv x K bg))
noncomputable def ah7:bA:=b2 (P:=P) b3 [] [(0,{bR:=[(1, .aq),(5, .aq),(13, .aq),(14, .aq),(15, .aG (.int .i64))],I:=[.af .u32]})] []
theorem ah8:qZ P 213 [Go.ak.dk, .aG (.int .u64)] aa.DV.T:=Gc ah7 bZ Go.Proofs.Tryz.f213 4 Go.ak.dk (y2 _) (Go.ak.UF aa.abi fun a k K bg=>cM (by kernel_rfl) (aa.acV a k K bg))
noncomputable def ah9:bA:=b2 (P:=P) b3 [⟨_,qC.n⟩,⟨_,ah6.n⟩,⟨_,ah8.n⟩] [(0,{bR:=[(4, .aq),(6, .aq),(7, .aq),(8, .aq),(9, .aq),(10, .aq),(11, .aq),(12, .aG (.int .i64))],I:=[.af .u32, .aq, .af .u32]}),(2,{bR:=[(4, .aq),(6, .aq),(7, .aq),(8, .aq),(9, .aq),(10, .aq),(11, .aq),(12, .aq),(14, .aG (.int .u64)),(15, .aG (.int .u64))],I:=[.aq, .aq, .aq]}),(4,{bR:=[(4, .aq),(6, .aq),(7, .aq),(8, .aq),(9, .aq),(10, .aq),(11, .aq),(12, .aq),(14, .aq),(16, .aG (.int .u64)),(17, .aG (.int .u64)),(117, .aq),(118, .aq),(119, .aG (.int .i64))],I:=[.af .u32, .aq, .af .u32]}),(6,{bR:=[(4, .aq),(6, .aq),(7, .aq),(8, .aq),(9, .aq),(10, .aq),(11, .aq),(12, .aq),(14, .aq),(17, .aG (.int .u64)),(177, .aq),(178, .aq),(179, .aG (.int .i64))],I:=[.af .u32, .aq, .af .u32]}),(8,{bR:=[(4, .aq),(5, .aq),(6, .aq),(7, .aq),(223, .aq),(224, .aG (.int .i64))],I:=[.af .u32, .aq, .af .u32, .af .u32]})] [(100002,{bR:=[(4, .aq),(6, .aq),(7, .aq),(8, .aq),(9, .aq),(10, .aq),(11, .aq),(12, .aq),(14, .aG (.int .u64))],I:=[.aq, .aq, .aq]}),(174,{bR:=[(4, .aq),(6, .aq),(7, .aq),(8, .aq),(9, .aq),(10, .aq),(11, .aq),(12, .aq),(14, .aG (.int .u64))],I:=[.af .u32, .aq, .af .u32]})]
theorem ah_:cF P 197 [Go.ak.dk,Go.ak.dk] aa.Ew.T:=cY ah9 bZ Go.Proofs.Tryz.f197 [.tmp 4, .tmp 5] [Go.ak.dk,Go.ak.dk] (cJ _) (Go.ak.gm aa.acP fun a b K bg=>cM (by kernel_rfl) (aa.ael a b K bg))
noncomputable def aia:bA:=b2 (P:=P) b3 [⟨_,Fz.d⟩,⟨_,qC.d⟩,⟨_,T2.d⟩,⟨_,T1.d⟩,⟨_,T3.d⟩,⟨_,ah_.d⟩] [] []
theorem T5:cF P 157 [Go.ak.dk,Go.ak.dk] aa.Db.T:=cY aia bZ Go.Proofs.Tryz.f157 [.tmp 4, .tmp 5, .tmp 6] [Go.ak.dk,Go.ak.dk,Go.ak.bU] (cJ _) (Go.ak.gm aa.ZI fun a b K bg=>cM (by kernel_rfl) (aa.abn a b K bg))
noncomputable def aib:bA:=b2 (P:=P) b3 [] [(0,{bR:=[(3, .aG (.int .u64)),(6, .aq),(7, .aq),(8, .aG (.int .i64))]})] []
theorem aic:cF P 195 [Go.ak.dk] aa.Da.T:=cY aib bZ Go.Proofs.Tryz.f195 [.tmp 2] [.aG (.int .u64)] (cJ _) (Go.ak.hb aa.ZH fun a K bg=>cM (by kernel_rfl) (aa.abk a K bg))
noncomputable def aid:bA:=b2 (P:=P) b3 [⟨_,J4.n⟩,⟨_,T5.n⟩,⟨_,aic.n⟩,⟨_,T3.n⟩] [(0,{bR:=[(0, .aG (.cp .u32)),(1, .aG (.cp .u32))]}),(2,{bR:=[(8, .aG (.int .u64)),(9, .aG (.int .u64))]})] []
theorem aie:cF P 156 [Go.ak.dk,Go.ak.dk] aa.Fb.T:=cY aid bZ Go.Proofs.Tryz.f156 [.tmp 4] [Go.ak.dk] (cJ _) (Go.ak.gm aa.aef fun a b K bg=>cM (by kernel_rfl) (aa.afm a b K bg))
noncomputable def aif:bA:=b2 (P:=P) b3 [⟨_,J4.n⟩,⟨_,aie.n⟩,⟨_,T5.n⟩] [] []
theorem FA:cF P 117 [Go.ak.jC,Go.ak.dk,Go.ak.dk] aa.Dj.T:=cY aif bZ Go.Proofs.Tryz.f117 [.cell 6 133] [Go.ak.ev] (cJ _) (Go.ak.jO aa.aah fun s a b K bg=>cM (by kernel_rfl) (aa.Z1 s a b K bg))
noncomputable def aih:bA:=b2 (P:=P) b3 [⟨_,Fz.n⟩] [] []
theorem aii:cF P 169 [Go.ak.dk] aa.Dk.T:=cY aih bZ Go.Proofs.Tryz.f169 [.tmp 2] [Go.ak.jC] (cJ _) (Go.ak.hb aa.aai fun a K bg=>cM (by kernel_rfl) (aa.Z2 a K bg))
noncomputable def aij:bA:=b2 (P:=P) b3 [⟨_,FA.n⟩,⟨_,aii.n⟩] [] []
theorem xI:cF P 139 [Go.ak.ev] aa.w3.T:=cY aij bZ Go.Proofs.Tryz.f139 [.cell 2 133] [Go.ak.ev] (cJ _) (Go.ak.jO aa.O4 fun s a b K bg=>cM (by kernel_rfl) (aa.Z3 s a b K bg))
noncomputable def aik:bA:=b2 (P:=P) b3 [] [] []
theorem T6:cF P 140 [Go.ak.dk] aa.Fh.T:=cY aik bZ Go.Proofs.Tryz.f140 [.tmp 2] [Go.ak.jC] (cJ _) (Go.ak.hb aa.ae0 fun a K bg=>cM (by kernel_rfl) (aa.aeq a K bg))
noncomputable def ail:bA:=b2 (P:=P) b3 [] [] []
theorem T7:cF P 175 [.aG (.int .u32), .aG (.int .u32), .aG (.int .u32)] aa.DP.T:=cY ail bZ Go.Proofs.Tryz.f175 [.tmp 6, .tmp 7] [.aG (.int .u32), .aG (.int .u32)] (cJ _) (Go.ak.jO aa.abc fun x y c K bg=>cM (by kernel_rfl) (aa.Yj x y c K bg))
noncomputable def aim:bA:=b2 (P:=P) b3 [⟨_,qC.d⟩,⟨_,T7.d⟩] [(0,{bR:=[(0, .aq),(1, .aq),(5, .aq),(6, .aG (.int .u32)),(21, .aq),(22, .aq),(23, .aG (.int .i64))],I:=[.af .u32]})] [(14,{bR:=[(0, .aG (.cp .u32)),(1, .aG (.cp .u32))]}),(31,{bR:=[(0, .aq),(1, .aq),(5, .aq),(6, .aq),(7, .aq),(8, .aq),(9, .aG (.int .u32)),(21, .aq),(22, .aq),(23, .aq)],I:=[.aq]})]
theorem ain:cF P 170 [Go.ak.dk,Go.ak.dk] aa.iQ.T:=cY aim bZ Go.Proofs.Tryz.f170 [.tmp 4] [Go.ak.dk] (cJ _) (Go.ak.gm aa.aec fun a b K bg=>cM (by kernel_rfl) (aa.afg a b K bg))
noncomputable def aio:bA:=b2 (P:=P) b3 [] [] []
theorem aip:cF P 198 [.aG (.int .u32), .aG (.int .u32), .aG (.int .u32)] aa.DQ.T:=cY aio bZ Go.Proofs.Tryz.f198 [.tmp 6, .tmp 7] [.aG (.int .u32), .aG (.int .u32)] (cJ _) (Go.ak.jO aa.abd fun x y c K bg=>cM (by kernel_rfl) (aa.Yl x y c K bg))
noncomputable def aiq:bA:=b2 (P:=P) b3 [⟨_,Fz.d⟩,⟨_,qC.d⟩,⟨_,aip.d⟩] [(0,{bR:=[(1, .aq),(6, .aq),(7, .aG (.int .u32)),(22, .aq),(23, .aq),(24, .aG (.int .i64))],I:=[.af .u32]})] [(32,{bR:=[(1, .aq),(6, .aq),(7, .aq),(8, .aq),(9, .aq),(10, .aG (.int .u32)),(22, .aq),(23, .aq),(24, .aq)],I:=[.aq]})]
theorem air:cF P 172 [Go.ak.dk,Go.ak.dk] aa.Fa.T:=cY aiq bZ Go.Proofs.Tryz.f172 [.tmp 4, .tmp 5] [Go.ak.dk,Go.ak.bU] (cJ _) (Go.ak.gm aa.aee fun a b K bg=>cM (by kernel_rfl) (aa.afj a b K bg))
noncomputable def ais:bA:=b2 (P:=P) b3 [⟨_,FA.n⟩,⟨_,ain.n⟩,⟨_,Fz.n⟩,⟨_,air.n⟩] [] [(25,{bR:=[(0, .aG (.bool)),(1, .aG (.cp .u32)),(3, .aG (.cp .u32)),(4, .aq),(10, .aq)],I:=[.aq]})]
theorem ait:cF P 141 [Go.ak.jC,Go.ak.dk,Go.ak.jC,Go.ak.dk,Go.ak.dk] aa.CM.T:=cY ais bZ Go.Proofs.Tryz.f141 [.cell 10 133] [Go.ak.ev] (cJ _) (Go.ak.aki aa.Y4 fun s a t b d K bg=>cM (by kernel_rfl) (aa.Y0 s a t b d K bg))
noncomputable def aiu:bA:=b2 (P:=P) b3 [] [] []
theorem aiv:cF P 174 [.aG (.int .u32), .aG (.int .u32)] aa.DO.T:=cY aiu bZ Go.Proofs.Tryz.f174 [.tmp 4, .tmp 5] [.aG (.int .u32), .aG (.int .u32)] (cJ _) (Go.ak.gm aa.abb fun x y K bg=>cM (by kernel_rfl) (aa.Yi x y K bg))
noncomputable def aiw:bA:=b2 (P:=P) b3 [⟨_,qC.d⟩,⟨_,aiv.d⟩,⟨_,T7.d⟩] [(0,{bR:=[(1, .aq),(5, .aq),(24, .aq),(25, .aq),(26, .aG (.int .i64))],I:=[.af .u32]}),(2,{bR:=[(1, .aq),(5, .aq),(6, .aq),(7, .aq),(8, .aG (.int .u32)),(24, .aq),(25, .aq),(26, .aq),(31, .aq),(32, .aq),(33, .aG (.int .i64))],I:=[.af .u32]})] []
theorem T8:cF P 142 [Go.ak.dk,Go.ak.dk] aa.E_.T:=cY aiw bZ Go.Proofs.Tryz.f142 [.tmp 4] [Go.ak.dk] (cJ _) (Go.ak.gm aa.aed fun a b K bg=>cM (by kernel_rfl) (aa.afh a b K bg))
noncomputable def aix:bA:=b2 (P:=P) b3 [⟨_,Au.n⟩,⟨_,xI.n⟩,⟨_,T6.n⟩,⟨_,ait.n⟩,⟨_,T8.n⟩] [] []
theorem FB:cF P 100 [Go.ak.ev,Go.ak.ev] aa.xm.T:=cY aix bZ Go.Proofs.Tryz.f100 [.cell 4 39] [Go.ak.ev] (cJ _) (Go.ak.oz aa.Q6 fun s a b t c d K bg=>cM (by kernel_rfl) (aa.aeu s a b t c d K bg))
noncomputable def aiy:bA:=b2 (P:=P) b3 [⟨_,xI.n⟩] [] []
theorem FC:cF P 101 [Go.ak.ev] aa.xa.T:=cY aiy bZ Go.Proofs.Tryz.f101 [.tmp 2] [Go.ak.bU] (cJ _) (Go.ak.jO aa.abY fun s a b K bg=>cM (by kernel_rfl) (aa.ade s a b K bg))
noncomputable def aiz:bA:=b2 (P:=P) b3 [] [] []
theorem aiA:cF P 204 [Go.ak.bU] aa.D3.T:=cY aiz bZ Go.Proofs.Tryz.f204 [.tmp 2] [Go.ak.jC] (cJ _) (Go.ak.hb aa.ab3 fun a K bg=>cM (by kernel_rfl) (aa.WQ a K bg))
noncomputable def aiB:bA:=b2 (P:=P) b3 [⟨_,aiA.n⟩] [] []
theorem aiC:cF P 186 [Go.ak.bU,Go.ak.bU] aa.EE.T:=cY aiB bZ Go.Proofs.Tryz.f186 [.tmp 4] [Go.ak.bU] (cJ _) (Go.ak.gm aa.adA fun a b K bg=>cM (by kernel_rfl) (aa.WE a b K bg))
noncomputable def aiD:bA:=b2 (P:=P) b3 [⟨_,aiC.n⟩] [(0,{bR:=[(0, .aq),(1, .aq),(9, .aq),(10, .aq),(11, .aG (.int .i64))]})] []
theorem T9:cF P 145 [.aG (.cp .i64), .aG (.cp .i64)] aa.CS.T:=cY aiD bZ Go.Proofs.Tryz.f145 [.tmp 4] [Go.ak.bU] (cJ _) (Go.ak.gm aa.Y_ fun a b K bg=>cM (by kernel_rfl) (aa.Wq a b K bg))
noncomputable def aiE:bA:=b2 (P:=P) b3 [⟨_,T9.n⟩] [] []
theorem m_:pY P 103 [.struct [] [.bool], .struct [] [.int .i64, .int .i64, .int .i64, .int .i64, .int .i64, .int .i64, .int .i64, .int .i64, .bool, .cp .u32, .cp .u32], .struct [] [.int .i64, .int .i64, .int .i64, .int .i64, .int .i64, .int .i64, .int .i64, .int .i64, .bool, .cp .u32, .cp .u32]] (aa.qu.T ⟨103,true⟩):=Bd aiE bZ Go.Proofs.Tryz.f103 [.tmp 6] (cJ _) (Go.ak.gm (aa.adQ 103) fun a b K bg=>cM (by kernel_rfl) (aa.Wh _ rfl a b K bg))
noncomputable def af9:bA:=b2 (P:=P) b3 [⟨_,m_.n⟩] [(0,{bR:=[(0, .aq),(1, .aq),(2, .aq),(3, .aq),(8, .aG (.int .i64))],I:=[.ar 11]}),(2,{bR:=[(0, .aq),(1, .aq),(2, .aq),(3, .aq),(8, .aq),(9, .aG (.int .i64))],I:=[.ar 11]})] []
theorem af_:hR P 176 0 [Go.ak.bU,Go.ak.bU,Go.ak.fI] (aa.Fi.T ⟨103,true⟩):=nk 0 af9 bZ Go.Proofs.Tryz.f176 [] [] (gQ _) (Go.ak.k9 (aa.Sa ⟨103,true⟩) fun l a b K bg=>mY (by kernel_rfl) (aa.LK l a b K bg))
noncomputable def aga:bA:=b2 (P:=P) b3 [⟨_,m_.n⟩] [(0,{bR:=[(0, .aq),(2, .aq),(3, .aq),(4, .aq),(10, .aG (.int .i64))],I:=[.ar 11]})] [(40,{bR:=[(0, .aq),(2, .aq),(3, .aq),(4, .aq),(10, .aq),(11, .aG (.int .i64))],I:=[.ar 11]})]
theorem agb:hh P 199 [Go.ak.bU,Go.ak.bU,Go.ak.bU,Go.ak.fI] (aa.Ey.T ⟨103,true⟩):=ij aga bZ Go.Proofs.Tryz.f199 [] [] (gQ _) (Go.ak.nf (aa.Ra ⟨103,true⟩) fun l lo hi f K bg=>h8 (by kernel_rfl) (aa.L1 l lo hi f K bg))
noncomputable def agc:bA:=b2 (P:=P) b3 [⟨_,m_.n⟩,⟨_,agb.d⟩] [(0,{bR:=[(0, .aq),(3, .aq),(8, .aq),(9, .aq),(10, .aq),(11, .aG (.int .i64))],I:=[.ar 11]}),(2,{bR:=[(0, .aq),(3, .aq),(8, .aq),(9, .aq),(12, .aG (.int .i64))],I:=[.ar 11]})] [(100000,{bR:=[(0, .aq),(3, .aq),(8, .aq),(9, .aq),(10, .aq)],I:=[.ar 11]})]
theorem agd:hh P 177 [Go.ak.bU,Go.ak.bU,Go.ak.fI] (aa.Ez.T ⟨103,true⟩):=ij agc bZ Go.Proofs.Tryz.f177 [] [] (gQ _) (Go.ak.k9 (aa.Rb ⟨103,true⟩) fun l a b K bg=>h8 (by kernel_rfl) (aa.L2 l a b K bg))
noncomputable def aiF:bA:=b2 (P:=P) b3 [] [] [(4,{bR:=[(0, .aG (.int .u64)),(2, .aG (.int .i64))]}),(8,{bR:=[(0, .aG (.int .u64)),(2, .aG (.int .i64))]})]
theorem aiG:cF P 185 [.aG (.int .u64)] aa.xd.T:=cY aiF bZ Go.Proofs.Tryz.f185 [.tmp 2] [Go.ak.bU] (cJ _) (Go.ak.hb aa.PZ fun x K bg=>cM (by kernel_rfl) (aa.Yo x K bg))
noncomputable def aiH:bA:=b2 (P:=P) b3 [⟨_,T4.n⟩,⟨_,aiG.n⟩] [] []
theorem J5:cF P 144 [.aG (.int .u64)] aa.xd.T:=cY aiH bZ Go.Proofs.Tryz.f144 [.tmp 2] [Go.ak.bU] (cJ _) (Go.ak.hb aa.PZ fun x K bg=>cM (by kernel_rfl) (aa.ZW x K bg))
noncomputable def aiI:bA:=b2 (P:=P) b3 [⟨_,J5.n⟩] [] []
theorem T_:cF P 200 [Go.ak.bU] aa.Fk.T:=cY aiI bZ Go.Proofs.Tryz.f200 [.tmp 2] [.aG (.int .u64)] (cJ _) (Go.ak.hb aa.ae4 fun x K bg=>cM (by kernel_rfl) (aa.WC x K bg))
noncomputable def aiJ:bA:=b2 (P:=P) b3 [] [] []
theorem Ua:hh P 201 [] aa.Fl.T:=ij aiJ bZ Go.Proofs.Tryz.f201 [.tmp 2] [.aG (.int .u64)] aa.afC (Go.ak.FZ aa.ae5 fun x K bg=>h8 (by kernel_rfl) (aa.Wy x K bg))
noncomputable def age:bA:=b2 (P:=P) b3 [⟨_,m_.n⟩,⟨_,T_.n⟩,⟨_,Ua.d⟩] [(0,{bR:=[(0, .aq),(1, .aq),(8, .aq),(9, .aq),(10, .aq),(11, .aG (.int .i64))],I:=[.ar 11, .cells [.int .u64]]})] [(45,{bR:=[(0, .aq),(1, .aq),(8, .aq),(9, .aq),(10, .aq),(11, .aq),(12, .aG (.int .i64))],I:=[.ar 11, .aq]})]
theorem agf:hh P 178 [Go.ak.bU,Go.ak.bU,Go.ak.fI] (aa.zB.T ⟨103,true⟩):=ij age bZ Go.Proofs.Tryz.f178 [] [] (aa.Rf _) (Go.ak.k9 (aa.PY ⟨103,true⟩) fun l a b K bg=>h8 (by kernel_rfl) (aa.LM l a b K bg))
noncomputable def agh:bA:=b2 (P:=P) b3 [⟨_,m_.n⟩] [] []
theorem agi:hR P 214 3 [Go.ak.dT,Go.ak.bU,Go.ak.bU,Go.ak.fI] (aa.EB.T ⟨103,true⟩):=nk 3 agh bZ Go.Proofs.Tryz.f214 [.tmp 10, .tmp 11] [Go.ak.bU,Go.ak.bU] (gQ _) (Go.ak.nf (aa.Rd ⟨103,true⟩) fun l a b s K bg=>mY (by kernel_rfl) (aa.L7 l a b s K bg))
noncomputable def agj:bA:=b2 (P:=P) b3 [⟨_,m_.n⟩,⟨_,agi.n⟩] [] []
theorem Tn:hR P 203 4 [Go.ak.dT,Go.ak.bU,Go.ak.bU,Go.ak.bU,Go.ak.fI] (aa.Fm.T ⟨103,true⟩):=nk 4 agj bZ Go.Proofs.Tryz.f203 [.tmp 12] [Go.ak.bU] (gQ _) (Go.ak.F0 (aa.Sc ⟨103,true⟩) fun l a b e s K bg=>mY (by kernel_rfl) (aa.L8 l a b e s K bg))
noncomputable def agk:bA:=b2 (P:=P) b3 [⟨_,m_.n⟩,⟨_,Tn.n⟩] [] []
theorem agl:hR P 202 2 [Go.ak.dT,Go.ak.bU,Go.ak.fI] (aa.Dn.T ⟨103,true⟩):=nk 2 agk bZ Go.Proofs.Tryz.f202 [.tmp 8] [Go.ak.bU] (gQ _) (Go.ak.k9 (aa.O7 ⟨103,true⟩) fun l a s K bg=>mY (by kernel_rfl) (aa.LI l a s K bg))
noncomputable def agm:bA:=b2 (P:=P) b3 [⟨_,m_.n⟩,⟨_,agl.n⟩,⟨_,Tn.n⟩] [] [(34,{bR:=[(11, .aq),(13, .aG (.int .i64))],I:=[.cells [.int .i64]]}),(36,{bR:=[(0, .aq),(3, .aq),(11, .aq),(12, .aG (.int .i64)),(13, .aG (.int .i64)),(14, .aG (.int .i64))],I:=[.cells [.int .i64]]})]
theorem agn:pY P 179 [Go.ak.dT,Go.ak.bU,Go.ak.bU,Go.ak.fI] (aa.D1.T ⟨103,true⟩):=Bd agm bZ Go.Proofs.Tryz.f179 [.tmp 8, .tmp 9] (cJ _) (Go.ak.jO (aa.PX ⟨103,true⟩) fun l a b K bg=>cM (by kernel_rfl) (aa.LR l a b K bg))
noncomputable def ago:bA:=b2 (P:=P) b3 [⟨_,m_.n⟩] [(0,{bR:=[(0, .aq),(8, .aG (.int .i64)),(9, .aG (.int .i64))],I:=[.ar 11]})] []
theorem agp:hh P 180 [Go.ak.bU,Go.ak.bU,Go.ak.fI] (aa.Fj.T ⟨103,true⟩):=ij ago bZ Go.Proofs.Tryz.f180 [] [] (gQ _) (Go.ak.k9 (aa.Sb ⟨103,true⟩) fun l a b K bg=>h8 (by kernel_rfl) (aa.LO l a b K bg))
noncomputable def agq:bA:=b2 (P:=P) b3 [⟨_,m_.n⟩] [(0,{bR:=[(0, .aq),(1, .aq),(2, .aq),(3, .aq),(9, .aG (.int .i64)),(10, .aG (.int .i64))],I:=[.ar 11]}),(2,{bR:=[(0, .aq),(1, .aq),(2, .aq),(3, .aq),(9, .aG (.int .i64)),(10, .aq)],I:=[.ar 11]}),(4,{bR:=[(0, .aq),(1, .aq),(2, .aq),(3, .aq),(9, .aq),(10, .aq),(11, .aG (.int .i64))],I:=[.ar 11]}),(6,{bR:=[(0, .aq),(1, .aq),(2, .aq),(3, .aq),(9, .aq),(10, .aq),(12, .aG (.int .i64))],I:=[.ar 11]})] [(100000,{bR:=[(0, .aq)],I:=[.ar 11]}),(100002,{bR:=[(0, .aq),(1, .aq),(2, .aq),(3, .aq),(9, .aG (.int .i64)),(10, .aq)],I:=[.ar 11]}),(65,{bR:=[(0, .aq),(1, .aq),(2, .aq),(3, .aq),(9, .aq),(10, .aq)],I:=[.ar 11]})]
theorem agr:hh P 181 [Go.ak.bU,Go.ak.bU,Go.ak.fI] (aa.CR.T ⟨103,true⟩):=ij agq bZ Go.Proofs.Tryz.f181 [.tmp 8] [Go.ak.jC] (gQ _) (Go.ak.k9 (aa.Of ⟨103,true⟩) fun l a b K bg=>h8 (by kernel_rfl) (aa.LB l a b K bg))
noncomputable def ags:bA:=b2 (P:=P) b3 [⟨_,m_.n⟩] [(0,{bR:=[(0, .aq),(1, .aq),(4, .aq),(11, .aG (.int .i64)),(12, .aG (.int .i64))],I:=[.ar 11]}),(2,{bR:=[(0, .aq),(1, .aq),(4, .aq),(11, .aG (.int .i64)),(12, .aq)],I:=[.ar 11]}),(4,{bR:=[(0, .aq),(1, .aq),(4, .aq),(11, .aq),(12, .aG (.int .i64))],I:=[.ar 11]})] [(100000,{bR:=[(0, .aq),(11, .aG (.int .i64))],I:=[.ar 11]}),(100002,{bR:=[(0, .aq),(1, .aq),(4, .aq),(11, .aG (.int .i64)),(12, .aq)],I:=[.ar 11]}),(100004,{bR:=[(0, .aq),(1, .aq),(4, .aq),(11, .aq),(12, .aG (.int .i64))],I:=[.ar 11]})]
theorem agt:hh P 182 [Go.ak.bU,Go.ak.bU,Go.ak.bU,Go.ak.fI] (aa.Dm.T ⟨103,true⟩):=ij ags bZ Go.Proofs.Tryz.f182 [.tmp 10] [Go.ak.bU] (gQ _) (Go.ak.nf (aa.O6 ⟨103,true⟩) fun l a b p K bg=>h8 (by kernel_rfl) (aa.LH l a b p K bg))
noncomputable def agu:bA:=b2 (P:=P) b3 [⟨_,m_.n⟩] [(0,{bR:=[(0, .aq),(1, .aq),(4, .aq),(12, .aG (.int .i64)),(13, .aq)],I:=[.ar 11]}),(2,{bR:=[(0, .aq),(1, .aq),(4, .aq),(12, .aq),(13, .aG (.int .i64))],I:=[.ar 11]}),(4,{bR:=[(0, .aq),(1, .aq),(4, .aq),(12, .aG (.int .i64)),(13, .aG (.int .i64))],I:=[.ar 11]}),(6,{bR:=[(0, .aq),(1, .aq),(4, .aq),(12, .aG (.int .i64)),(13, .aq)],I:=[.ar 11]}),(8,{bR:=[(0, .aq),(1, .aq),(4, .aq),(12, .aq),(13, .aG (.int .i64))],I:=[.ar 11]})] [(100000,{bR:=[(0, .aq),(1, .aq),(4, .aq),(12, .aG (.int .i64)),(13, .aq)],I:=[.ar 11]}),(100002,{bR:=[(0, .aq),(1, .aq),(4, .aq),(12, .aq),(13, .aG (.int .i64))],I:=[.ar 11]}),(100004,{bR:=[(0, .aq),(1, .aq),(13, .aG (.int .i64))],I:=[.ar 11]}),(100006,{bR:=[(0, .aq),(1, .aq),(4, .aq),(12, .aG (.int .i64)),(13, .aq)],I:=[.ar 11]}),(100008,{bR:=[(0, .aq),(1, .aq),(4, .aq),(12, .aq),(13, .aG (.int .i64))],I:=[.ar 11]})]
theorem agv:hh P 183 [Go.ak.bU,Go.ak.bU,Go.ak.bU,Go.ak.fI] (aa.EA.T ⟨103,true⟩):=ij agu bZ Go.Proofs.Tryz.f183 [.tmp 10, .tmp 11] [Go.ak.bU,Go.ak.jC] (gQ _) (Go.ak.nf (aa.Rc ⟨103,true⟩) fun l a b p K bg=>h8 (by kernel_rfl) (aa.LZ l a b p K bg))
noncomputable def agw (n:Nat) (ay:hR P 143 0 [Go.ak.bU,Go.ak.bU,Go.ak.bU,Go.ak.fI] (aa.kZ.T ⟨103,true⟩ n)):bA:=b2 (P:=P) b3 [⟨_,m_.n⟩,⟨_,ay.d⟩,⟨_,af_.n⟩,⟨_,agd.n⟩,⟨_,agf.d⟩,⟨_,agn.n⟩,⟨_,agp.n⟩,⟨_,agr.n⟩,⟨_,agt.n⟩,⟨_,agv.n⟩] [(0,{bR:=[(0, .aq),(1, .aG (.int .i64)),(2, .aG (.int .i64)),(3, .aG (.int .i64)),(4, .aq),(10, .aG (.bool)),(11, .aG (.bool))],I:=[.ar 11]})] [(39,{bR:=[(0, .aq),(1, .aq),(2, .aq),(3, .aG (.int .i64)),(4, .aq),(10, .aq),(11, .aq),(12, .aq)],I:=[.ar 11]}),(56,{bR:=[(0, .aq),(1, .aq),(2, .aq),(3, .aq),(4, .aq),(10, .aq),(11, .aq),(12, .aq),(13, .aG (.int .i64)),(14, .aG (.int .i64))],I:=[.ar 11]}),(75,{bR:=[(0, .aq),(1, .aq),(2, .aq),(3, .aq),(4, .aq),(10, .aq),(11, .aq),(12, .aq),(13, .aq)],I:=[.ar 11]})]
theorem agx (n:Nat)(ay:hR P 143 0 [Go.ak.bU,Go.ak.bU,Go.ak.bU,Go.ak.fI] (aa.kZ.T ⟨103,true⟩ n)):hR P 143 0 [Go.ak.bU,Go.ak.bU,Go.ak.bU,Go.ak.fI] (aa.kZ.T ⟨103,true⟩ (n+1)):=nk 0 (agw n ay) bZ Go.Proofs.Tryz.f143 [] [] (aa.Em _ _) (Go.ak.nf (aa.IG ⟨103,true⟩ (n+1)) fun l a b m K bg=>mY (by kernel_rfl) (aa.L5 n l a b m K bg))
theorem To:∀n,hR P 143 0 [Go.ak.bU,Go.ak.bU,Go.ak.bU,Go.ak.fI] (aa.kZ.T ⟨103,true⟩ n)
 |0=>⟨aa.Rh _ ⟨_,Go.Proofs.Tryz.func143,rfl,by kernel_rfl⟩,aa.Em _ _⟩
 |n+1=>agx n (To n)
theorem afH:hR P 143 0 [Go.ak.bU,Go.ak.bU,Go.ak.bU,Go.ak.fI] (aa.tc.T ⟨103,true⟩):=⟨aa.Rg (fun n=>(To n).s) (aa.Sf _),aa.Sd _⟩
noncomputable def agy:bA:=b2 (P:=P) b3 [⟨_,m_.n⟩,⟨_,afH.d⟩,⟨_,J5.n⟩] [] []
theorem agz:hR P 102 0 [Go.ak.fI] (aa.zP.T ⟨103,true⟩):=nk 0 agy bZ Go.Proofs.Tryz.f102 [] [] (aa.Se _) (Go.ak.FZ (aa.Re ⟨103,true⟩) fun l K bg=>mY (by kernel_rfl) (aa.LW l K bg))
noncomputable def ama:bA:=b2 (P:=P) b3 [⟨_,FB.n⟩,⟨_,FC.n⟩,⟨_,agz.d⟩] [(0,{bR:=[(3, .aq),(4, .aq),(13, .aq),(14, .aq),(15, .aG (.int .i64))],I:=[.map 8 11, .ar 8],conv:=[(4, .dK 8)]}),(2,{bR:=[(3, .aq),(9, .aq),(44, .aq),(45, .aq),(46, .aG (.int .i64))],I:=[.map 8 11, .ar 8, .ar 11],conv:=[(9, .dK 11)]})] [(27,{bR:=[(3, .aq),(4, .aq),(6, .aq),(13, .aq),(14, .aq),(15, .aq)],I:=[.map 8 11, .ar 8, .ar 11]})]
theorem vP:cF P 54 [Go.ak.dT] aa.sE.T:=cY ama bZ Go.Proofs.Tryz.f54 [.tmp 2] [Go.ak.dT] (cJ _) (Go.ak.hb aa.Og fun l K bg=>cM (by kernel_rfl) (aa.Wz l K bg))
noncomputable def amb:bA:=b2 (P:=P) b3 [] [(0,{bR:=[(1, .aq),(5, .aG (.int .i64)),(8, .aq),(9, .aq),(10, .aG (.int .i64))]})] []
theorem Vw:cF P 65 [Go.ak.dT,Go.ak.bU] aa.EM.T:=cY amb bZ Go.Proofs.Tryz.f65 [.tmp 4] [Go.ak.bU] (cJ _) (Go.ak.gm aa.adG fun p v K bg=>cM (by kernel_rfl) (aa.WZ p v K bg))
noncomputable def amc:bA:=b2 (P:=P) b3 [⟨_,Vw.n⟩] [(0,{bR:=[(0, .aq),(1, .aq),(2, .aq),(8, .aG (.int .i64))]})] []
theorem amd:cF P 55 [Go.ak.dT,Go.ak.bU,Go.ak.dT] aa.ES.T:=cY amc bZ Go.Proofs.Tryz.f55 [.tmp 6] [Go.ak.jC] (cJ _) (Go.ak.jO aa.adN fun p n q K bg=>cM (by kernel_rfl) (aa.Wx p n q K bg))
noncomputable def aiK:bA:=b2 (P:=P) b3 [] [(0,{bR:=[(2, .aq),(3, .aq),(4, .aq),(6, .aG (.int .i64))],I:=[.ar 8, .ar 8, .ar 8]})] []
theorem aiL:cF P 104 [.arr 8 (.aG (.int .i64)) [.int .i64, .int .i64, .int .i64, .int .i64, .int .i64, .int .i64, .int .i64, .int .i64], .arr 8 (.aG (.int .i64)) [.int .i64, .int .i64, .int .i64, .int .i64, .int .i64, .int .i64, .int .i64, .int .i64]] aa.D4.T:=cY aiK bZ Go.Proofs.Tryz.f104 [.cell 4 36] [.arr 8 (.aG (.int .i64)) [.int .i64, .int .i64, .int .i64, .int .i64, .int .i64, .int .i64, .int .i64, .int .i64]] (cJ _) (Go.ak.gm aa.ab4 fun a b K bg=>cM (by kernel_rfl) (aa.W4 a b K bg))
noncomputable def aiM:bA:=b2 (P:=P) b3 [⟨_,FA.n⟩,⟨_,Au.n⟩,⟨_,xI.n⟩,⟨_,T8.n⟩] [] []
theorem FD:cF P 105 [Go.ak.ev,Go.ak.ev] aa.xp.T:=cY aiM bZ Go.Proofs.Tryz.f105 [.cell 4 39] [Go.ak.ev] (cJ _) (Go.ak.oz aa.Q9 fun s a b t c d K bg=>cM (by kernel_rfl) (aa.aex s a b t c d K bg))
noncomputable def aiN:bA:=b2 (P:=P) b3 [⟨_,T9.n⟩] [] []
theorem na:pY P 149 [.struct [] [.int .i64], .struct [] [.int .i64, .int .i64, .int .i64, .int .i64, .int .i64, .int .i64, .int .i64, .int .i64, .bool, .cp .u32, .cp .u32], .struct [] [.int .i64, .int .i64, .int .i64, .int .i64, .int .i64, .int .i64, .int .i64, .int .i64, .bool, .cp .u32, .cp .u32]] (aa.qu.T ⟨149,false⟩):=Bd aiN bZ Go.Proofs.Tryz.f149 [.tmp 6] (cJ _) (Go.ak.gm (aa.adR 149) fun a b K bg=>cM (by kernel_rfl) (aa.Wl _ rfl a b K bg))
noncomputable def agA:bA:=b2 (P:=P) b3 [⟨_,na.n⟩] [(0,{bR:=[(0, .aq),(1, .aq),(2, .aq),(3, .aq),(8, .aG (.int .i64))],I:=[.ar 11]}),(2,{bR:=[(0, .aq),(1, .aq),(2, .aq),(3, .aq),(8, .aq),(9, .aG (.int .i64))],I:=[.ar 11]})] []
theorem agB:hR P 176 0 [Go.ak.bU,Go.ak.bU,Go.ak.fI] (aa.Fi.T ⟨149,false⟩):=nk 0 agA bZ Go.Proofs.Tryz.f176 [] [] (gQ _) (Go.ak.k9 (aa.Sa ⟨149,false⟩) fun l a b K bg=>mY (by kernel_rfl) (aa.LK l a b K bg))
noncomputable def agC:bA:=b2 (P:=P) b3 [⟨_,na.n⟩] [(0,{bR:=[(0, .aq),(2, .aq),(3, .aq),(4, .aq),(10, .aG (.int .i64))],I:=[.ar 11]})] [(40,{bR:=[(0, .aq),(2, .aq),(3, .aq),(4, .aq),(10, .aq),(11, .aG (.int .i64))],I:=[.ar 11]})]
theorem agD:hh P 199 [Go.ak.bU,Go.ak.bU,Go.ak.bU,Go.ak.fI] (aa.Ey.T ⟨149,false⟩):=ij agC bZ Go.Proofs.Tryz.f199 [] [] (gQ _) (Go.ak.nf (aa.Ra ⟨149,false⟩) fun l lo hi f K bg=>h8 (by kernel_rfl) (aa.L1 l lo hi f K bg))
noncomputable def agE:bA:=b2 (P:=P) b3 [⟨_,na.n⟩,⟨_,agD.d⟩] [(0,{bR:=[(0, .aq),(3, .aq),(8, .aq),(9, .aq),(10, .aq),(11, .aG (.int .i64))],I:=[.ar 11]}),(2,{bR:=[(0, .aq),(3, .aq),(8, .aq),(9, .aq),(12, .aG (.int .i64))],I:=[.ar 11]})] [(100000,{bR:=[(0, .aq),(3, .aq),(8, .aq),(9, .aq),(10, .aq)],I:=[.ar 11]})]
theorem agF:hh P 177 [Go.ak.bU,Go.ak.bU,Go.ak.fI] (aa.Ez.T ⟨149,false⟩):=ij agE bZ Go.Proofs.Tryz.f177 [] [] (gQ _) (Go.ak.k9 (aa.Rb ⟨149,false⟩) fun l a b K bg=>h8 (by kernel_rfl) (aa.L2 l a b K bg))
noncomputable def agG:bA:=b2 (P:=P) b3 [⟨_,na.n⟩,⟨_,T_.n⟩,⟨_,Ua.d⟩] [(0,{bR:=[(0, .aq),(1, .aq),(8, .aq),(9, .aq),(10, .aq),(11, .aG (.int .i64))],I:=[.ar 11, .cells [.int .u64]]})] [(45,{bR:=[(0, .aq),(1, .aq),(8, .aq),(9, .aq),(10, .aq),(11, .aq),(12, .aG (.int .i64))],I:=[.ar 11, .aq]})]
theorem agH:hh P 178 [Go.ak.bU,Go.ak.bU,Go.ak.fI] (aa.zB.T ⟨149,false⟩):=ij agG bZ Go.Proofs.Tryz.f178 [] [] (aa.Rf _) (Go.ak.k9 (aa.PY ⟨149,false⟩) fun l a b K bg=>h8 (by kernel_rfl) (aa.LM l a b K bg))
noncomputable def agI:bA:=b2 (P:=P) b3 [⟨_,na.n⟩] [] []
theorem agJ:hR P 214 3 [Go.ak.dT,Go.ak.bU,Go.ak.bU,Go.ak.fI] (aa.EB.T ⟨149,false⟩):=nk 3 agI bZ Go.Proofs.Tryz.f214 [.tmp 10, .tmp 11] [Go.ak.bU,Go.ak.bU] (gQ _) (Go.ak.nf (aa.Rd ⟨149,false⟩) fun l a b s K bg=>mY (by kernel_rfl) (aa.L7 l a b s K bg))
noncomputable def agK:bA:=b2 (P:=P) b3 [⟨_,na.n⟩,⟨_,agJ.n⟩] [] []
theorem Tp:hR P 203 4 [Go.ak.dT,Go.ak.bU,Go.ak.bU,Go.ak.bU,Go.ak.fI] (aa.Fm.T ⟨149,false⟩):=nk 4 agK bZ Go.Proofs.Tryz.f203 [.tmp 12] [Go.ak.bU] (gQ _) (Go.ak.F0 (aa.Sc ⟨149,false⟩) fun l a b e s K bg=>mY (by kernel_rfl) (aa.L8 l a b e s K bg))
noncomputable def agL:bA:=b2 (P:=P) b3 [⟨_,na.n⟩,⟨_,Tp.n⟩] [] []
theorem agM:hR P 202 2 [Go.ak.dT,Go.ak.bU,Go.ak.fI] (aa.Dn.T ⟨149,false⟩):=nk 2 agL bZ Go.Proofs.Tryz.f202 [.tmp 8] [Go.ak.bU] (gQ _) (Go.ak.k9 (aa.O7 ⟨149,false⟩) fun l a s K bg=>mY (by kernel_rfl) (aa.LI l a s K bg))
noncomputable def agN:bA:=b2 (P:=P) b3 [⟨_,na.n⟩,⟨_,agM.n⟩,⟨_,Tp.n⟩] [] [(34,{bR:=[(11, .aq),(13, .aG (.int .i64))],I:=[.cells [.int .i64]]}),(36,{bR:=[(0, .aq),(3, .aq),(11, .aq),(12, .aG (.int .i64)),(13, .aG (.int .i64)),(14, .aG (.int .i64))],I:=[.cells [.int .i64]]})]
theorem agO:pY P 179 [Go.ak.dT,Go.ak.bU,Go.ak.bU,Go.ak.fI] (aa.D1.T ⟨149,false⟩):=Bd agN bZ Go.Proofs.Tryz.f179 [.tmp 8, .tmp 9] (cJ _) (Go.ak.jO (aa.PX ⟨149,false⟩) fun l a b K bg=>cM (by kernel_rfl) (aa.LR l a b K bg))
noncomputable def agP:bA:=b2 (P:=P) b3 [⟨_,na.n⟩] [(0,{bR:=[(0, .aq),(8, .aG (.int .i64)),(9, .aG (.int .i64))],I:=[.ar 11]})] []
theorem agQ:hh P 180 [Go.ak.bU,Go.ak.bU,Go.ak.fI] (aa.Fj.T ⟨149,false⟩):=ij agP bZ Go.Proofs.Tryz.f180 [] [] (gQ _) (Go.ak.k9 (aa.Sb ⟨149,false⟩) fun l a b K bg=>h8 (by kernel_rfl) (aa.LO l a b K bg))
noncomputable def agR:bA:=b2 (P:=P) b3 [⟨_,na.n⟩] [(0,{bR:=[(0, .aq),(1, .aq),(2, .aq),(3, .aq),(9, .aG (.int .i64)),(10, .aG (.int .i64))],I:=[.ar 11]}),(2,{bR:=[(0, .aq),(1, .aq),(2, .aq),(3, .aq),(9, .aG (.int .i64)),(10, .aq)],I:=[.ar 11]}),(4,{bR:=[(0, .aq),(1, .aq),(2, .aq),(3, .aq),(9, .aq),(10, .aq),(11, .aG (.int .i64))],I:=[.ar 11]}),(6,{bR:=[(0, .aq),(1, .aq),(2, .aq),(3, .aq),(9, .aq),(10, .aq),(12, .aG (.int .i64))],I:=[.ar 11]})] [(100000,{bR:=[(0, .aq)],I:=[.ar 11]}),(100002,{bR:=[(0, .aq),(1, .aq),(2, .aq),(3, .aq),(9, .aG (.int .i64)),(10, .aq)],I:=[.ar 11]}),(65,{bR:=[(0, .aq),(1, .aq),(2, .aq),(3, .aq),(9, .aq),(10, .aq)],I:=[.ar 11]})]
theorem agS:hh P 181 [Go.ak.bU,Go.ak.bU,Go.ak.fI] (aa.CR.T ⟨149,false⟩):=ij agR bZ Go.Proofs.Tryz.f181 [.tmp 8] [Go.ak.jC] (gQ _) (Go.ak.k9 (aa.Of ⟨149,false⟩) fun l a b K bg=>h8 (by kernel_rfl) (aa.LB l a b K bg))
noncomputable def agT:bA:=b2 (P:=P) b3 [⟨_,na.n⟩] [(0,{bR:=[(0, .aq),(1, .aq),(4, .aq),(11, .aG (.int .i64)),(12, .aG (.int .i64))],I:=[.ar 11]}),(2,{bR:=[(0, .aq),(1, .aq),(4, .aq),(11, .aG (.int .i64)),(12, .aq)],I:=[.ar 11]}),(4,{bR:=[(0, .aq),(1, .aq),(4, .aq),(11, .aq),(12, .aG (.int .i64))],I:=[.ar 11]})] [(100000,{bR:=[(0, .aq),(11, .aG (.int .i64))],I:=[.ar 11]}),(100002,{bR:=[(0, .aq),(1, .aq),(4, .aq),(11, .aG (.int .i64)),(12, .aq)],I:=[.ar 11]}),(100004,{bR:=[(0, .aq),(1, .aq),(4, .aq),(11, .aq),(12, .aG (.int .i64))],I:=[.ar 11]})]
theorem agU:hh P 182 [Go.ak.bU,Go.ak.bU,Go.ak.bU,Go.ak.fI] (aa.Dm.T ⟨149,false⟩):=ij agT bZ Go.Proofs.Tryz.f182 [.tmp 10] [Go.ak.bU] (gQ _) (Go.ak.nf (aa.O6 ⟨149,false⟩) fun l a b p K bg=>h8 (by kernel_rfl) (aa.LH l a b p K bg))
noncomputable def agV:bA:=b2 (P:=P) b3 [⟨_,na.n⟩] [(0,{bR:=[(0, .aq),(1, .aq),(4, .aq),(12, .aG (.int .i64)),(13, .aq)],I:=[.ar 11]}),(2,{bR:=[(0, .aq),(1, .aq),(4, .aq),(12, .aq),(13, .aG (.int .i64))],I:=[.ar 11]}),(4,{bR:=[(0, .aq),(1, .aq),(4, .aq),(12, .aG (.int .i64)),(13, .aG (.int .i64))],I:=[.ar 11]}),(6,{bR:=[(0, .aq),(1, .aq),(4, .aq),(12, .aG (.int .i64)),(13, .aq)],I:=[.ar 11]}),(8,{bR:=[(0, .aq),(1, .aq),(4, .aq),(12, .aq),(13, .aG (.int .i64))],I:=[.ar 11]})] [(100000,{bR:=[(0, .aq),(1, .aq),(4, .aq),(12, .aG (.int .i64)),(13, .aq)],I:=[.ar 11]}),(100002,{bR:=[(0, .aq),(1, .aq),(4, .aq),(12, .aq),(13, .aG (.int .i64))],I:=[.ar 11]}),(100004,{bR:=[(0, .aq),(1, .aq),(13, .aG (.int .i64))],I:=[.ar 11]}),(100006,{bR:=[(0, .aq),(1, .aq),(4, .aq),(12, .aG (.int .i64)),(13, .aq)],I:=[.ar 11]}),(100008,{bR:=[(0, .aq),(1, .aq),(4, .aq),(12, .aq),(13, .aG (.int .i64))],I:=[.ar 11]})]
theorem agW:hh P 183 [Go.ak.bU,Go.ak.bU,Go.ak.bU,Go.ak.fI] (aa.EA.T ⟨149,false⟩):=ij agV bZ Go.Proofs.Tryz.f183 [.tmp 10, .tmp 11] [Go.ak.bU,Go.ak.jC] (gQ _) (Go.ak.nf (aa.Rc ⟨149,false⟩) fun l a b p K bg=>h8 (by kernel_rfl) (aa.LZ l a b p K bg))
noncomputable def agX (n:Nat) (ay:hR P 143 0 [Go.ak.bU,Go.ak.bU,Go.ak.bU,Go.ak.fI] (aa.kZ.T ⟨149,false⟩ n)):bA:=b2 (P:=P) b3 [⟨_,ay.d⟩,⟨_,na.n⟩,⟨_,agB.n⟩,⟨_,agF.n⟩,⟨_,agH.d⟩,⟨_,agO.n⟩,⟨_,agQ.n⟩,⟨_,agS.n⟩,⟨_,agU.n⟩,⟨_,agW.n⟩] [(0,{bR:=[(0, .aq),(1, .aG (.int .i64)),(2, .aG (.int .i64)),(3, .aG (.int .i64)),(4, .aq),(10, .aG (.bool)),(11, .aG (.bool))],I:=[.ar 11]})] [(39,{bR:=[(0, .aq),(1, .aq),(2, .aq),(3, .aG (.int .i64)),(4, .aq),(10, .aq),(11, .aq),(12, .aq)],I:=[.ar 11]}),(56,{bR:=[(0, .aq),(1, .aq),(2, .aq),(3, .aq),(4, .aq),(10, .aq),(11, .aq),(12, .aq),(13, .aG (.int .i64)),(14, .aG (.int .i64))],I:=[.ar 11]}),(75,{bR:=[(0, .aq),(1, .aq),(2, .aq),(3, .aq),(4, .aq),(10, .aq),(11, .aq),(12, .aq),(13, .aq)],I:=[.ar 11]})]
theorem agY (n:Nat)(ay:hR P 143 0 [Go.ak.bU,Go.ak.bU,Go.ak.bU,Go.ak.fI] (aa.kZ.T ⟨149,false⟩ n)):hR P 143 0 [Go.ak.bU,Go.ak.bU,Go.ak.bU,Go.ak.fI] (aa.kZ.T ⟨149,false⟩ (n+1)):=nk 0 (agX n ay) bZ Go.Proofs.Tryz.f143 [] [] (aa.Em _ _) (Go.ak.nf (aa.IG ⟨149,false⟩ (n+1)) fun l a b m K bg=>mY (by kernel_rfl) (aa.L5 n l a b m K bg))
theorem Tq:∀n,hR P 143 0 [Go.ak.bU,Go.ak.bU,Go.ak.bU,Go.ak.fI] (aa.kZ.T ⟨149,false⟩ n)
 |0=>⟨aa.Rh _ ⟨_,Go.Proofs.Tryz.func143,rfl,by kernel_rfl⟩,aa.Em _ _⟩
 |n+1=>agY n (Tq n)
theorem afI:hR P 143 0 [Go.ak.bU,Go.ak.bU,Go.ak.bU,Go.ak.fI] (aa.tc.T ⟨149,false⟩):=⟨aa.Rg (fun n=>(Tq n).s) (aa.Sf _),aa.Sd _⟩
noncomputable def agZ:bA:=b2 (P:=P) b3 [⟨_,afI.d⟩,⟨_,J5.n⟩,⟨_,na.n⟩] [] []
theorem ag0:hR P 102 0 [Go.ak.fI] (aa.zP.T ⟨149,false⟩):=nk 0 agZ bZ Go.Proofs.Tryz.f102 [] [] (aa.Se _) (Go.ak.FZ (aa.Re ⟨149,false⟩) fun l K bg=>mY (by kernel_rfl) (aa.LW l K bg))
noncomputable def aiO:bA:=b2 (P:=P) b3 [⟨_,Au.n⟩,⟨_,xI.n⟩] [] []
theorem aiP:cF P 146 [Go.ak.ev] aa.w3.T:=cY aiO bZ Go.Proofs.Tryz.f146 [.cell 2 39] [Go.ak.ev] (cJ _) (Go.ak.jO aa.O4 fun s a b K bg=>cM (by kernel_rfl) (aa.adb s a b K bg))
noncomputable def aiQ:bA:=b2 (P:=P) b3 [⟨_,FC.n⟩] [] []
theorem J6:cF P 148 [.struct [] [.int .i64, .int .i64, .int .i64, .int .i64, .int .i64, .int .i64, .int .i64, .int .i64, .bool, .cp .u32, .cp .u32]] aa.D6.T:=cY aiQ bZ Go.Proofs.Tryz.f148 [.tmp 2] [Go.ak.jC] (cJ _) (Go.ak.hb aa.ab5 fun r K bg=>cM (by kernel_rfl) (aa.WH r K bg))
noncomputable def aiR:bA:=b2 (P:=P) b3 [⟨_,J6.n⟩] [(0,{bR:=[(0, .aq),(1, .aq),(7, .aq),(8, .aG (.int .i64))]})] []
theorem aiS:pY P 187 [Go.ak.dT,Go.ak.fI] (aa.zl.T 148):=Bd aiR bZ Go.Proofs.Tryz.f187 [.tmp 4] (cJ _) (Go.ak.hb (aa.aak 148) fun l K bg=>cM (by kernel_rfl) (aa.Wi 148 l K bg))
noncomputable def aiT:bA:=b2 (P:=P) ((26,{ty:= .aG (.dK 11),elem:=41,bytes:=120,fv:=[.int .i64, .int .i64, .int .i64, .int .i64, .int .i64, .int .i64, .int .i64, .int .i64, .bool, .cp .u32, .cp .u32],lit:=true,cut:=true})::b3) [⟨_,J6.n⟩,⟨_,aiS.n⟩] [(0,{bR:=[(0, .aq),(1, .aq),(5, .aG (.int .i64)),(6, .aG (.int .i64))],I:=[.ar 11]})] []
theorem aiU:wg P 147 [Go.ak.fI] (aa.zQ.T 148):=ak9 aiT (Ej (by kernel_rfl) (by kernel_rfl) pN) Go.Proofs.Tryz.f147 4 (acM _) (Go.ak.akj (aa.adB 148) fun l K bg=>cM (by kernel_rfl) (aa.Wg 148 l K bg))
noncomputable def aiV:bA:=b2 (P:=P) b3 [⟨_,FB.n⟩,⟨_,ag0.d⟩,⟨_,aiP.n⟩,⟨_,aiU.n⟩,⟨_,J6.n⟩] [(0,{bR:=[(3, .aq),(4, .aq),(13, .aq),(14, .aq),(15, .aG (.int .i64))],I:=[.map 8 9, .ar 11]})] []
theorem FE:cF P 106 [Go.ak.dT] aa.sE.T:=cY aiV bZ Go.Proofs.Tryz.f106 [.tmp 2] [Go.ak.dT] (cJ _) (Go.ak.hb aa.Og fun l K bg=>cM (by kernel_rfl) (aa.WR l K bg))
noncomputable def ame:bA:=b2 (P:=P) b3 [⟨_,aiL.n⟩,⟨_,FD.n⟩,⟨_,FE.n⟩] [(0,{bR:=[(1, .aq),(5, .aq),(16, .aq),(17, .aq),(18, .aG (.int .i64))],I:=[.ar 11]}),(2,{bR:=[(1, .aq),(5, .aq),(7, .aq),(16, .aq),(17, .aq),(18, .aq),(22, .aq),(23, .aq),(24, .aG (.int .i64))],I:=[.ar 11, .ar 11]})] []
theorem Vx:cF P 56 [Go.ak.dT,Go.ak.dT] aa.EL.T:=cY ame bZ Go.Proofs.Tryz.f56 [.tmp 4] [Go.ak.dT] (cJ _) (Go.ak.gm aa.adF fun p q K bg=>cM (by kernel_rfl) (aa.XO p q K bg))
noncomputable def amf:bA:=b2 (P:=P) b3 [⟨_,vO.n⟩,⟨_,vP.n⟩,⟨_,amd.n⟩,⟨_,Vx.n⟩] [] []
theorem Vy:cF P 13 [Go.ak.dT,Go.ak.dT] aa.ET.T:=cY amf bZ Go.Proofs.Tryz.f13 [.tmp 4, .tmp 5] [Go.ak.dT,Go.ak.bU] (cJ _) (Go.ak.gm aa.adO fun p q K bg=>cM (by kernel_rfl) (aa.WV p q K bg))
noncomputable def aiW:bA:=b2 (P:=P) ((26,{ty:= .aG (.dK 11),elem:=41,bytes:=120,fv:=[.int .i64, .int .i64, .int .i64, .int .i64, .int .i64, .int .i64, .int .i64, .int .i64, .bool, .cp .u32, .cp .u32]})::b3) [] [] []
theorem Ub:qZ P 107 [Go.ak.dT] aa.D5.T:=Gc aiW (Ej (by kernel_rfl) (by kernel_rfl) pN) Go.Proofs.Tryz.f107 2 Go.ak.dT (y2 _) (Go.ak.Ku aa.ab6 fun l K bg=>cM (by kernel_rfl) (aa.Wj l K bg))
noncomputable def amg:bA:=b2 (P:=P) b3 [⟨_,FE.n⟩,⟨_,Ub.n⟩] [] []
theorem K8:cF P 58 [Go.ak.dT,Go.ak.dT] aa.EI.T:=cY amg bZ Go.Proofs.Tryz.f58 [.tmp 4] [Go.ak.dT] (cJ _) (Go.ak.gm aa.adC fun p q K bg=>cM (by kernel_rfl) (aa.XK p q K bg))
noncomputable def aiX:bA:=b2 (P:=P) b3 [] [(0,{bR:=[(0, .aq),(3, .aG (.int .i64)),(4, .aG (.int .i64))]})] [(7,{bR:=[(0, .aq)]})]
theorem aiY:cF P 163 [.aG (.cp .i64)] aa.Fp.T:=cY aiX bZ Go.Proofs.Tryz.f163 [.tmp 2] [Go.ak.bU] (cJ _) (Go.ak.hb aa.ae6 fun a K bg=>cM (by kernel_rfl) (aa.WG a K bg))
noncomputable def aiZ:bA:=b2 (P:=P) b3 [⟨_,aiY.n⟩] [(0,{bR:=[(3, .aG (.int .i64)),(6, .aq),(7, .aq),(8, .aG (.int .i64))]})] []
theorem ai0:cF P 128 [Go.ak.dT] aa.EN.T:=cY aiZ bZ Go.Proofs.Tryz.f128 [.tmp 2] [Go.ak.bU] (cJ _) (Go.ak.hb aa.adH fun p K bg=>cM (by kernel_rfl) (aa.XL p K bg))
noncomputable def amh:bA:=b2 (P:=P) b3 [⟨_,ai0.n⟩] [] []
theorem K9:cF P 78 [Go.ak.dT] aa.CY.T:=cY amh bZ Go.Proofs.Tryz.f78 [.tmp 2, .tmp 3] [Go.ak.dT,Go.ak.bU] (cJ _) (Go.ak.hb aa.Za fun p K bg=>cM (by kernel_rfl) (aa.Ww p K bg))
noncomputable def ai1:bA:=b2 (P:=P) b3 [⟨_,vO.n⟩,⟨_,vP.n⟩,⟨_,K8.n⟩,⟨_,K9.n⟩] [] []
theorem ai2:cF P 57 [Go.ak.dT,Go.ak.dT,Go.ak.fI] (aa.zS.T 58):=cY ai1 bZ Go.Proofs.Tryz.f57 [.tmp 6, .tmp 7] [Go.ak.dT,Go.ak.bU] (cJ _) (Go.ak.gm (aa.adJ 58) fun p q K bg=>cM (by kernel_rfl) (aa.Ws 58 p q K bg))
noncomputable def ami:bA:=b2 (P:=P) b3 [⟨_,ai2.n⟩] [] []
theorem Vz:cF P 15 [Go.ak.dT,Go.ak.dT] aa.EP.T:=cY ami bZ Go.Proofs.Tryz.f15 [.tmp 4, .tmp 5] [Go.ak.dT,Go.ak.bU] (cJ _) (Go.ak.gm aa.adL fun p q K bg=>cM (by kernel_rfl) (aa.WT p q K bg))
noncomputable def ai3:bA:=b2 (P:=P) b3 [⟨_,J4.n⟩] [] [(8,{bR:=[(0, .aq),(4, .aG (.int .u64))]})]
theorem ai4:cF P 116 [Go.ak.bU] aa.Cg.T:=cY ai3 bZ Go.Proofs.Tryz.f116 [.tmp 2, .tmp 3] [Go.ak.jC,Go.ak.dk] (cJ _) (Go.ak.hb aa.XP fun n K bg=>cM (by kernel_rfl) (aa.XI n K bg))
noncomputable def amj:bA:=b2 (P:=P) b3 [⟨_,ai4.n⟩,⟨_,FA.n⟩,⟨_,Au.n⟩] [] []
theorem Bi:cF P 63 [Go.ak.bU] aa.ta.T:=cY amj bZ Go.Proofs.Tryz.f63 [.cell 2 39] [Go.ak.ev] (cJ _) (Go.ak.hb aa.Q5 fun n K bg=>cM (by kernel_rfl) (aa.aes n K bg))
noncomputable def ai5:bA:=b2 (P:=P) b3 [⟨_,FD.n⟩,⟨_,FE.n⟩,⟨_,Ub.n⟩] [(0,{bR:=[(3, .aq),(5, .aq),(10, .aq),(11, .aG (.int .i64))],I:=[.aq, .ar 11]})] []
theorem ai6:cF P 130 [Go.ak.dT,Go.ak.ev] aa.Dt.T:=cY ai5 bZ Go.Proofs.Tryz.f130 [.tmp 4] [Go.ak.dT] (cJ _) (Go.ak.UE aa.aal fun p s a b K bg=>cM (by kernel_rfl) (aa.W5 p s a b K bg))
noncomputable def ai7:bA:=b2 (P:=P) b3 [⟨_,Bi.n⟩,⟨_,ai6.n⟩] [] []
theorem ai8:cF P 108 [Go.ak.dT] aa.EJ.T:=cY ai7 bZ Go.Proofs.Tryz.f108 [.tmp 2] [Go.ak.dT] (cJ _) (Go.ak.hb aa.adD fun p K bg=>cM (by kernel_rfl) (aa.XM p K bg))
noncomputable def amk:bA:=b2 (P:=P) b3 [⟨_,K8.n⟩,⟨_,ai8.n⟩] [] []
theorem aml:cF P 59 [Go.ak.dT,Go.ak.dT] aa.EK.T:=cY amk bZ Go.Proofs.Tryz.f59 [.tmp 4] [Go.ak.dT] (cJ _) (Go.ak.gm aa.adE fun p q K bg=>cM (by kernel_rfl) (aa.XN p q K bg))
noncomputable def ai9:bA:=b2 (P:=P) b3 [⟨_,vO.n⟩,⟨_,vP.n⟩,⟨_,aml.n⟩,⟨_,K9.n⟩] [] []
theorem ai_:cF P 57 [Go.ak.dT,Go.ak.dT,Go.ak.fI] (aa.zT.T 59):=cY ai9 bZ Go.Proofs.Tryz.f57 [.tmp 6, .tmp 7] [Go.ak.dT,Go.ak.bU] (cJ _) (Go.ak.gm (aa.adK 59) fun p q K bg=>cM (by kernel_rfl) (aa.Wt 59 p q K bg))
noncomputable def amm:bA:=b2 (P:=P) b3 [⟨_,ai_.n⟩] [] []
theorem amn:cF P 16 [Go.ak.dT,Go.ak.dT] aa.ER.T:=cY amm bZ Go.Proofs.Tryz.f16 [.tmp 4, .tmp 5] [Go.ak.dT,Go.ak.bU] (cJ _) (Go.ak.gm aa.adM fun p q K bg=>cM (by kernel_rfl) (aa.WU p q K bg))
noncomputable def amo:bA:=b2 (P:=P) b3 [⟨_,Bi.n⟩] [] []
theorem amp:cF P 20 [Go.ak.bU] aa.EO.T:=cY amo bZ Go.Proofs.Tryz.f20 [.tmp 2, .tmp 3] [Go.ak.dT,Go.ak.bU] (cJ _) (Go.ak.hb aa.adI fun v K bg=>cM (by kernel_rfl) (aa.WS v K bg))
theorem aja:cF P 53 [Go.ak.dT] aa.zm.T:=⟨aa.zH vO.s aa.afE,cJ _⟩
theorem ajb:cF P 54 [Go.ak.dT] aa.zb.T:=⟨aa.zH vP.s aa.ae7,cJ _⟩
theorem ajc:cF P 63 [Go.ak.bU] aa.zV.T:=⟨aa.zH Bi.s aa.ahH,cJ _⟩
theorem ag1:cF P 101 [Go.ak.ev] aa.zE.T:=⟨aa.zH FC.s aa.af8,cJ _⟩
noncomputable def ajd:bA:=b2 (P:=P) b3 [⟨_,Au.n⟩,⟨_,xI.n⟩] [] []
theorem aje:cF P 205 [Go.ak.ev] aa.xn.T:=cY ajd bZ Go.Proofs.Tryz.f205 [.cell 2 39] [Go.ak.ev] (cJ _) (Go.ak.jO aa.Q7 fun s a b K bg=>cM (by kernel_rfl) (aa.aev s a b K bg))
noncomputable def ajf:bA:=b2 (P:=P) b3 [⟨_,FB.n⟩,⟨_,aje.n⟩] [] []
theorem ajg:cF P 189 [Go.ak.ev,Go.ak.ev] aa.xo.T:=cY ajf bZ Go.Proofs.Tryz.f189 [.cell 4 39] [Go.ak.ev] (cJ _) (Go.ak.oz aa.Q8 fun s a b t c d K bg=>cM (by kernel_rfl) (aa.aew s a b t c d K bg))
noncomputable def ajh:bA:=b2 (P:=P) b3 [⟨_,FC.n⟩,⟨_,ajg.n⟩] [] []
theorem aji:cF P 151 [Go.ak.ev,Go.ak.ev] aa.xq.T:=cY ajh bZ Go.Proofs.Tryz.f151 [.tmp 4] [Go.ak.bU] (cJ _) (Go.ak.oz aa.Q_ fun s a b t c d K bg=>cM (by kernel_rfl) (aa.aey s a b t c d K bg))
noncomputable def ajj:bA:=b2 (P:=P) b3 [⟨_,aji.n⟩] [] []
theorem ajk:cF P 110 [Go.ak.ev,Go.ak.ev] aa.sL.T:=cY ajj bZ Go.Proofs.Tryz.f110 [.tmp 4] [Go.ak.jC] (cJ _) (Go.ak.oz aa.O5 fun s a b t c d K bg=>cM (by kernel_rfl) (aa.abD s a b t c d K bg))
theorem ag2:cF P 110 [Go.ak.ev,Go.ak.ev] aa.zn.T:=⟨aa.zH ajk.s aa.afF,cJ _⟩
noncomputable def ajl:bA:=b2 (P:=P) b3 [] [(0,{bR:=[(0, .aq),(2, .aG (.int .i64)),(3, .aG (.int .i64))],I:=[.af .u8]})] []
theorem ajm:hh P 191 [] aa.CI.T:=ij ajl bZ Go.Proofs.Tryz.f191 [] [] (gQ _) (Go.ak.FZ aa.YU fun l K bg=>h8 (by kernel_rfl) (aa.Ym l K bg))
noncomputable def ajn:bA:=b2 (P:=P) b3 [⟨_,qC.d⟩,⟨_,T2.d⟩,⟨_,ajm.d⟩] [(0,{bR:=[(0, .aG (.cp .u32)),(3, .aq)],I:=[.af .u8],conv:=[(3, .cp .u8)]}),(2,{bR:=[(0, .aq),(3, .aq),(4, .aG (.int .u32)),(15, .aG (.int .i64))],I:=[.af .u8]})] []
theorem ajo:cF P 152 [Go.ak.dk] aa.Dc.T:=cY ajn bZ Go.Proofs.Tryz.f152 [.tmp 2] [Go.ak.Lt] (cJ _) (Go.ak.hb aa.ZJ fun a K bg=>cM (by kernel_rfl) (aa.abl a K bg))
noncomputable def ajp:bA:=b2 (P:=P) b3 [⟨_,xI.n⟩,⟨_,T6.n⟩,⟨_,ajo.n⟩] [] [(13,{bR:=[(3, .aq),(4, .aG (.str))],I:=[.aq, .aq]})]
theorem ajq:cF P 111 [Go.ak.ev] aa.CN.T:=cY ajp bZ Go.Proofs.Tryz.f111 [.tmp 2] [Go.ak.Lt] (cJ _) (Go.ak.jO aa.Y5 fun s a b K bg=>cM (by kernel_rfl) (aa.Z4 s a b K bg))
noncomputable def Uc:bA:=b2 (P:=P) b3 [] [] []
noncomputable def Ud:hG:=⟨Uc,99999,114,5,109,114,20⟩
theorem ag3 (K:R->Prop):sG Ud Go.Proofs.Tryz.f207.ntmps [.tmp 2] (Go.Proofs.Tryz.f207.body.getD .skip) [.d (.int .i64 2)] (mj [.aG .str] K)=aa.GR K:=by kernel_rfl
theorem ajr:cF P 207 [Go.ak.bU] aa.rB.T:=⟨by
 refine wC (X:=Ud) bZ (Go.Proofs.Tryz.builder Uc 99999 20) (fn:=Go.Proofs.Tryz.f207) (c:=Go.Proofs.Tryz.f207.body.getD .skip) (by kernel_rfl) (by kernel_rfl) (by kernel_rfl) (rvs:=[.tmp 2]) (by kernel_rfl) (ts:=[.aG .str]) (by kernel_rfl) (fun args K bb=> ?_);obtain⟨rfl,bb⟩:=aa.IH args K bb;rw[ag3 K]
 exact aa.Wm K bb,(cJ _)⟩
noncomputable def Ue:bA:=b2 (P:=P) b3 [⟨_,ajr.d⟩] [] []
noncomputable def Uf:hG:=⟨Ue,99999,114,5,109,114,20⟩
theorem ag4 (K:R->Prop):sG Uf Go.Proofs.Tryz.f192.ntmps [.tmp 4] (Go.Proofs.Tryz.f192.body.getD .skip) [.d (.int .i64 2), .d (.int .i64 10)] (mj [.aG .str] K)=aa.GQ K:=by kernel_rfl
theorem ajs:cF P 192 [Go.ak.bU,Go.ak.bU] aa.zc.T:=⟨by
 refine wC (X:=Uf) bZ (Go.Proofs.Tryz.builder Ue 99999 20) (fn:=Go.Proofs.Tryz.f192) (c:=Go.Proofs.Tryz.f192.body.getD .skip) (by kernel_rfl) (by kernel_rfl) (by kernel_rfl) (rvs:=[.tmp 4]) (by kernel_rfl) (ts:=[.aG .str]) (by kernel_rfl) (fun args K bb=> ?_);obtain⟨rfl,bb⟩:=aa.acf args K bb;rw[ag4 K]
 exact aa.Wk K bb,(cJ _)⟩
noncomputable def Ug:bA:=b2 (P:=P) b3 [⟨_,ajs.d⟩] [] []
noncomputable def Uh:hG:=⟨Ug,99999,114,5,109,114,20⟩
theorem ag5 (K:R->Prop):sG Uh Go.Proofs.Tryz.f153.ntmps [.tmp 2] (Go.Proofs.Tryz.f153.body.getD .skip) [.d (.int .i64 2)] (mj [.aG .str] K)=aa.Mb K:=by kernel_rfl
theorem ajt:cF P 153 [Go.ak.bU] aa.rB.T:=⟨by
 refine wC (X:=Uh) bZ (Go.Proofs.Tryz.builder Ug 99999 20) (fn:=Go.Proofs.Tryz.f153) (c:=Go.Proofs.Tryz.f153.body.getD .skip) (by kernel_rfl) (by kernel_rfl) (by kernel_rfl) (rvs:=[.tmp 2]) (by kernel_rfl) (ts:=[.aG .str]) (by kernel_rfl) (fun args K bb=> ?_);obtain⟨rfl,bb⟩:=aa.IH args K bb;rw[ag5 K]
 exact aa.Wp K bb,(cJ _)⟩
noncomputable def Ui:bA:=b2 (P:=P) b3 [⟨_,ajt.d⟩] [] []
noncomputable def Uj:hG:=⟨Ui,99999,114,5,109,114,20⟩
theorem ag6 (K:R->Prop):sG Uj Go.Proofs.Tryz.f112.ntmps [.tmp 2] (Go.Proofs.Tryz.f112.body.getD .skip) [.d (.int .i64 2)] (mj [.aG .str] K)=aa.MN K:=by kernel_rfl
theorem aju:cF P 112 [Go.ak.bU] aa.rB.T:=⟨by
 refine wC (X:=Uj) bZ (Go.Proofs.Tryz.builder Ui 99999 20) (fn:=Go.Proofs.Tryz.f112) (c:=Go.Proofs.Tryz.f112.body.getD .skip) (by kernel_rfl) (by kernel_rfl) (by kernel_rfl) (rvs:=[.tmp 2]) (by kernel_rfl) (ts:=[.aG .str]) (by kernel_rfl) (fun args K bb=> ?_);obtain⟨rfl,bb⟩:=aa.IH args K bb;rw[ag6 K]
 exact aa.W8 K bb,(cJ _)⟩
noncomputable def Uk:bA:=b2 (P:=P) b3 [] [] []
noncomputable def Ul:hG:=⟨Uk,99999,114,5,109,114,20⟩
theorem ag7 (x s:List Int)(K:R->Prop):sG Ul Go.Proofs.Tryz.f113.ntmps [.tmp 4] (Go.Proofs.Tryz.f113.body.getD .skip) [.d (.ar 1 [[.str x]]), .d (.str s)] (mj [.aG .str] K)=aa.GU x s K:=by kernel_rfl
theorem ajv:cF P 113 [.aG (.dK 1),Go.ak.Lt] aa.zF.T:=⟨by
 refine wC (X:=Ul) bZ (Go.Proofs.Tryz.builder Uk 99999 20) (fn:=Go.Proofs.Tryz.f113) (c:=Go.Proofs.Tryz.f113.body.getD .skip) (by kernel_rfl) (by kernel_rfl) (by kernel_rfl) (rvs:=[.tmp 4]) (by kernel_rfl) (ts:=[.aG .str]) (by kernel_rfl) (fun args K bb=> ?_);obtain⟨x,s,rfl,bb⟩:=aa.ae8 args K bb;rw[ag7 x s K]
 exact aa.W9 x s K bb,(cJ _)⟩
noncomputable def VA:bA:=b2 (P:=P) b3 [⟨_,aja.d⟩,⟨_,ajb.d⟩,⟨_,ajc.d⟩,⟨_,ag1.d⟩,⟨_,ag2.d⟩,⟨_,ajq.d⟩,⟨_,aju.d⟩,⟨_,ajv.d⟩] [] []
noncomputable def VB:hG:=⟨VA,6,114,5,109,114,20⟩
theorem ajw (K:R->Prop):sG VB Go.Proofs.Tryz.f60.ntmps [.tmp 4, .tmp 5] (Go.Proofs.Tryz.f60.body.getD .skip) [.d (.ar 11 aa.qy), .d (.ar 1 aa.An)] (mj [.aG .str, .aG (.int .i64)] K)=aa.GS K:=by kernel_rfl
theorem amq:cF P 60 [Go.ak.dT, .aG (.dK 1)] aa.zd.T:=⟨by
 refine wC (X:=VB) bZ (Go.Proofs.Tryz.builder VA 6 20) (fn:=Go.Proofs.Tryz.f60) (c:=Go.Proofs.Tryz.f60.body.getD .skip) (by kernel_rfl) (by kernel_rfl) (by kernel_rfl) (rvs:=[.tmp 4, .tmp 5]) (by kernel_rfl) (ts:=[.aG .str, .aG (.int .i64)]) (by kernel_rfl) (fun args K bb=> ?_);obtain⟨rfl,bb⟩:=aa.acg args K bb;rw[ajw K]
 exact aa.WB K bb,(cJ _)⟩
noncomputable def amr:bA:=b2 (P:=P) b3 [⟨_,Vy.n⟩,⟨_,Vz.n⟩,⟨_,amn.n⟩,⟨_,amp.n⟩,⟨_,amq.n⟩] [] []
theorem ams:cF P 18 [] aa.C2.T:=cY amr bZ Go.Proofs.Tryz.f18 [.tmp 0] [Go.ak.jC] (cJ _) (Go.ak.akh aa.Zc fun K bg=>cM (by kernel_rfl) (aa.Wu K bg))
noncomputable def amt:bA:=b2 (P:=P) b3 [⟨_,K7.d⟩] [(0,{bR:=[(0, .aq),(1, .aq),(5, .aq),(6, .aG (.int .i64))],I:=[.cells [.cp .i64, .int .i64, .int .i64], .ar 3],conv:=[(5, .dK 3)]})] []
theorem amu:wh P 33 [Go.ak.bU] aa.C1.T:=ak_ amt bZ Go.Proofs.Tryz.f33 4 (.aG (.dK 3)) (abP _) (Go.ak.ala aa.Zd fun l a s n K bg=>ahw (by kernel_rfl) (aa.WW l a s n K bg))
noncomputable def ajx:bA:=b2 (P:=P) b3 [⟨_,Bi.n⟩,⟨_,FD.n⟩] [(0,{bR:=[(1, .aG (.int .i64)),(2, .aq),(4, .aq),(5, .aq)],I:=[.cells [.bool, .cp .u32, .cp .u32], .aq, .cells [.bool, .cp .u32, .cp .u32]]})] [(13,{bR:=[(1, .aq),(2, .aq),(4, .aq),(5, .aq)],I:=[.aq, .aq, .cells [.bool, .cp .u32, .cp .u32]]})]
theorem ajy:cF P 123 [Go.ak.ev,Go.ak.bU] aa.Ec.T:=cY ajx bZ Go.Proofs.Tryz.f123 [.cell 4 39] [Go.ak.ev] (cJ _) (Go.ak.UE aa.aca fun s a b n K bg=>cM (by kernel_rfl) (aa.W6 s a b n K bg))
noncomputable def amv:bA:=b2 (P:=P) b3 [⟨_,Bi.n⟩,⟨_,FB.n⟩,⟨_,FD.n⟩,⟨_,ajy.n⟩] [(0,{bR:=[(1, .aq),(4, .aq),(5, .aq),(12, .aq),(13, .aq),(14, .aG (.int .i64))],I:=[.ar 3, .aq, .cells [.bool, .cp .u32, .cp .u32]]}),(2,{bR:=[(1, .aq),(4, .aq),(5, .aq),(8, .aq),(12, .aq),(13, .aq),(14, .aq),(21, .aq),(22, .aG (.int .i64))],I:=[.ar 3, .aq, .aq, .ar 11, .cells [.bool, .cp .u32, .cp .u32]]})] []
theorem amw:hR P 72 1 [Go.ak.dT] aa.Ed.T:=nk 1 amv bZ Go.Proofs.Tryz.f72 [.cell 4 39] [Go.ak.ev] (gQ _) (Go.ak.UG aa.acb fun p x K bg=>mY (by kernel_rfl) (aa.Xn p x K bg))
noncomputable def amx:bA:=b2 (P:=P) b3 [⟨_,vO.n⟩,⟨_,vP.n⟩,⟨_,amw.d⟩] [] []
theorem amy:hR P 34 1 [Go.ak.dT] aa.Ee.T:=nk 1 amx bZ Go.Proofs.Tryz.f34 [.cell 4 39, .tmp 5] [Go.ak.ev,Go.ak.bU] (gQ _) (Go.ak.UG aa.acd fun p x K bg=>mY (by kernel_rfl) (aa.WL p x K bg))
noncomputable def amz:bA:=b2 (P:=P) b3 [⟨_,Gh.n⟩,⟨_,qB.n⟩] [] []
theorem Gi:cF P 74 [Go.ak.ev] aa.CO.T:=cY amz bZ Go.Proofs.Tryz.f74 [.cell 2 39] [Go.ak.ev] (cJ _) (Go.ak.jO aa.Y6 fun s a b K bg=>cM (by kernel_rfl) (aa.adh s a b K bg))
noncomputable def ajz:bA:=b2 (P:=P) b3 [⟨_,Gi.n⟩] [] []
theorem ajA:cF P 120 [Go.ak.ev] aa.DZ.T:=cY ajz bZ Go.Proofs.Tryz.f120 [.tmp 2] [Go.ak.bU] (cJ _) (Go.ak.jO aa.abZ fun s a b K bg=>cM (by kernel_rfl) (aa.adi s a b K bg))
noncomputable def amA:bA:=b2 (P:=P) b3 [⟨_,qB.d⟩] [(0,{bR:=[(0, .aq),(1, .aq),(5, .aq),(6, .aG (.int .i64))],I:=[.af .u32]}),(2,{bR:=[(0, .aq),(1, .aq),(5, .aq),(6, .aq),(7, .aG (.int .u64)),(8, .aG (.int .i64))],I:=[.af .u32]}),(4,{bR:=[(0, .aq),(1, .aq),(5, .aq),(6, .aq),(7, .aG (.int .u64)),(10, .aG (.int .i64))],I:=[.af .u32]})] []
theorem VC:cF P 75 [Go.ak.dk,Go.ak.dk] aa.Df.T:=cY amA bZ Go.Proofs.Tryz.f75 [.tmp 4] [Go.ak.dk] (cJ _) (Go.ak.gm aa.ZM fun a b K bg=>cM (by kernel_rfl) (aa.abv a b K bg))
noncomputable def amB:bA:=b2 (P:=P) b3 [⟨_,qB.d⟩,⟨_,TZ.d⟩] [(0,{bR:=[(1, .aq),(6, .aq),(7, .aG (.int .u64)),(8, .aG (.int .i64))],I:=[.af .u32, .af .u32]})] [(29,{bR:=[(1, .aq),(6, .aq),(8, .aq),(9, .aG (.int .u64))],I:=[.aq, .aq]})]
theorem amC:cF P 77 [Go.ak.dk,Go.ak.dk] aa.Dg.T:=cY amB bZ Go.Proofs.Tryz.f77 [.tmp 4, .tmp 5] [Go.ak.dk,Go.ak.bU] (cJ _) (Go.ak.gm aa.ZN fun a b K bg=>cM (by kernel_rfl) (aa.ab2 a b K bg))
noncomputable def amD:bA:=b2 (P:=P) b3 [⟨_,Vu.n⟩,⟨_,Gi.n⟩,⟨_,VC.n⟩,⟨_,Gh.n⟩,⟨_,amC.n⟩] [] []
theorem VD:cF P 36 [Go.ak.ev,Go.ak.ev] aa.xm.T:=cY amD bZ Go.Proofs.Tryz.f36 [.cell 4 39] [Go.ak.ev] (cJ _) (Go.ak.oz aa.Q6 fun s a b t c d K bg=>cM (by kernel_rfl) (aa.aeC s a b t c d K bg))
noncomputable def ajB:bA:=b2 (P:=P) b3 [⟨_,Gi.n⟩] [] []
theorem ajC:cF P 158 [Go.ak.ev] aa.xn.T:=cY ajB bZ Go.Proofs.Tryz.f158 [.cell 2 39] [Go.ak.ev] (cJ _) (Go.ak.jO aa.Q7 fun s a b K bg=>cM (by kernel_rfl) (aa.aeB s a b K bg))
noncomputable def ajD:bA:=b2 (P:=P) b3 [⟨_,VD.n⟩,⟨_,ajC.n⟩] [] []
theorem ajE:cF P 124 [Go.ak.ev,Go.ak.ev] aa.xo.T:=cY ajD bZ Go.Proofs.Tryz.f124 [.cell 4 39] [Go.ak.ev] (cJ _) (Go.ak.oz aa.Q8 fun s a b t c d K bg=>cM (by kernel_rfl) (aa.aeD s a b t c d K bg))
noncomputable def amE:bA:=b2 (P:=P) b3 [⟨_,ajA.n⟩,⟨_,ajE.n⟩] [] []
theorem amF:cF P 73 [Go.ak.ev,Go.ak.ev] aa.xq.T:=cY amE bZ Go.Proofs.Tryz.f73 [.tmp 4] [Go.ak.bU] (cJ _) (Go.ak.oz aa.Q_ fun s a b t c d K bg=>cM (by kernel_rfl) (aa.aeF s a b t c d K bg))
noncomputable def amG:bA:=b2 (P:=P) b3 [⟨_,amF.n⟩] [] []
theorem amH:cF P 35 [Go.ak.ev,Go.ak.ev] aa.sL.T:=cY amG bZ Go.Proofs.Tryz.f35 [.tmp 4] [Go.ak.jC] (cJ _) (Go.ak.oz aa.O5 fun s a b t c d K bg=>cM (by kernel_rfl) (aa.abE s a b t c d K bg))
noncomputable def amI:bA:=b2 (P:=P) b3 [⟨_,Gi.n⟩,⟨_,VC.n⟩,⟨_,Gh.n⟩] [] []
theorem amJ:cF P 37 [Go.ak.ev,Go.ak.ev] aa.xp.T:=cY amI bZ Go.Proofs.Tryz.f37 [.cell 4 39] [Go.ak.ev] (cJ _) (Go.ak.oz aa.Q9 fun s a b t c d K bg=>cM (by kernel_rfl) (aa.aeE s a b t c d K bg))
noncomputable def amK:bA:=b2 (P:=P) b3 [⟨_,vO.n⟩,⟨_,vP.n⟩] [] []
theorem amL:cF P 64 [Go.ak.dT,Go.ak.bU] aa.Ea.T:=cY amK bZ Go.Proofs.Tryz.f64 [.tmp 4, .tmp 5] [Go.ak.dT,Go.ak.bU] (cJ _) (Go.ak.gm aa.ab8 fun p v K bg=>cM (by kernel_rfl) (aa.Wn p v K bg))
noncomputable def amM:bA:=b2 (P:=P) b3 [⟨_,Vw.n⟩,⟨_,FE.n⟩] [(0,{bR:=[(1, .aq),(5, .aq),(17, .aq),(18, .aq),(19, .aG (.int .i64))]}),(2,{bR:=[(9, .aq),(44, .aq),(45, .aq),(46, .aG (.int .i64))],I:=[.ar 1]})] []
theorem amN:Jc P ⟨7,30,5,8,7,15,16,135,25,41,11⟩ (Go.Proofs.Tryz.f67.body.getD .skip):=⟨rfl,⟨_,rfl,rfl,rfl,rfl⟩,⟨_,rfl,rfl,rfl,rfl⟩,⟨trivial,⟨trivial,⟨trivial,⟨⟨trivial,⟨trivial,⟨trivial,⟨rfl,rfl,by kernel_rfl,⟨_,rfl,rfl,rfl,rfl⟩,⟨_,rfl,rfl,rfl,rfl⟩,⟨_,rfl,rfl,rfl,rfl⟩,⟨_,rfl,rfl,rfl,rfl⟩,⟨_,rfl,rfl,rfl,rfl⟩,⟨_,rfl,rfl,rfl,rfl⟩,⟨_,rfl,rfl,rfl,rfl⟩,⟨_,rfl,rfl,rfl,rfl⟩,⟨_,rfl,rfl,rfl,rfl⟩,⟨_,rfl,rfl,rfl,rfl⟩,⟨_,rfl,rfl,rfl,rfl⟩⟩⟩⟩⟩,trivial⟩⟩⟩⟩,by decide,_,_,rfl,rfl,rfl,rfl,by decide⟩
theorem amO:cF P 67 [Go.ak.dT,Go.ak.bU] aa.Eb.T:=alL amM bZ ⟨7,30,5,8,7,15,16,135,25,41,11⟩ Go.Proofs.Tryz.f67 [.tmp 4] [.aG (.dK 1)] (cJ _) ⟨by kernel_rfl,by kernel_rfl,rfl,by decide,by decide,by kernel_rfl⟩ amN (Go.ak.gm aa.ab_ fun p v K bg=>afA (by kernel_rfl) (aa.W7 p v K bg))
noncomputable def amP:bA:=b2 (P:=P) b3 [⟨_,Vx.n⟩,⟨_,K8.n⟩,⟨_,amO.n⟩] [(0,{bR:=[(2, .aq),(7, .aq),(8, .aG (.dK 11)),(9, .aG (.int .i64))]})] []
theorem amQ:cF P 79 [Go.ak.dT,Go.ak.bU,Go.ak.dT] aa.Ef.T:=cY amP bZ Go.Proofs.Tryz.f79 [.tmp 6] [Go.ak.dT] (cJ _) (Go.ak.jO aa.ace fun p v q K bg=>cM (by kernel_rfl) (aa.WA p v q K bg))
noncomputable def amR:bA:=b2 (P:=P) b3 [⟨_,vO.n⟩,⟨_,vP.n⟩,⟨_,amL.n⟩,⟨_,K9.n⟩,⟨_,amQ.n⟩] [] []
theorem amS:cF P 38 [Go.ak.dT,Go.ak.bU,Go.ak.dT] aa.Dx.T:=cY amR bZ Go.Proofs.Tryz.f38 [.tmp 6, .tmp 7] [Go.ak.dT,Go.ak.bU] (cJ _) (Go.ak.jO aa.aap fun p v q K bg=>cM (by kernel_rfl) (aa.Wo p v q K bg))
noncomputable def amT:bA:=b2 (P:=P) b3 [] [(0,{bR:=[(0, .aq),(1, .aq),(5, .aG (.int .i64))]})] []
theorem amU:cF P 80 [Go.ak.dk,Go.ak.dk] aa.Ev.T:=cY amT bZ Go.Proofs.Tryz.f80 [.tmp 4] [Go.ak.jC] (cJ _) (Go.ak.gm aa.acQ fun a b K bg=>cM (by kernel_rfl) (aa.ZQ a b K bg))
noncomputable def amV:bA:=b2 (P:=P) b3 [⟨_,amU.n⟩] [] []
theorem amW:cF P 39 [Go.ak.ev,Go.ak.ev] aa.DY.T:=cY amV bZ Go.Proofs.Tryz.f39 [.tmp 4] [Go.ak.jC] (cJ _) (Go.ak.oz aa.ab0 fun s a b t c d K bg=>cM (by kernel_rfl) (aa.adj s a b t c d K bg))
end Go.Proofs.YtmeonjefiioegaaGreatDoor.S
