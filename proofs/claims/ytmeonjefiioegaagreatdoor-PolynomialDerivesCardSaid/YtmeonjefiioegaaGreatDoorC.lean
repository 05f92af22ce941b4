/- Helpers for the statements: each function keeps its contract. Condition: none. -/
import Derived.Test.YtmeonjefiioegaaGreatDoorProg
import Derived.Test.YtmeonjefiioegaaGreatDoorB2
section
namespace Go.Proofs
open Go.Shelf Go.RowKit
set_option maxHeartbeats 1000000 in
set_option maxRecDepth 100000 in
theorem Tryz.Up (b:Nat)(w:World)(aE:w.cell? ⟨b,0,none⟩=some (.pointer (some ⟨b,0,none⟩))):
 Calls Tryz.prog 150 #[.pointer (some ⟨b,0,none⟩)] w fun e w'=>e= .returned (.tuple #[])/\w'=w:=by
 obtain⟨j,aK,_⟩:=Option.map_eq_some_iff.1 (show(Tryz.prog.info? 114).map (·.size)=some 2 by kernel_rfl)
 go_enter Tryz.func150,Tryz.ntmps150
 go_wp2
 rw[Lib.run_neq_ptr_same w _ Tryz.underlying111 aK]
 go_wp2
 go_end0
 exact⟨rfl,rfl⟩
set_option maxHeartbeats 1000000 in
set_option maxRecDepth 100000 in
theorem Tryz.TT (b:Nat)(w:World)(aE:w.cell? ⟨b,0,none⟩=some (.pointer none))(RH:w.shape? b=some (114,2))(dy:w.frozen? ⟨b,0,none⟩=false):
 Calls Tryz.prog 150 #[.pointer (some ⟨b,0,none⟩)] w fun e w'=>e= .returned (.tuple #[])/\w'=w.setCell ⟨b,0,none⟩ (.pointer (some ⟨b,0,none⟩)):=by
 obtain⟨j,aK,ZV⟩:=Option.map_eq_some_iff.1 (show(Tryz.prog.info? 114).map (·.size)=some 2 by kernel_rfl)
 go_enter Tryz.func150,Tryz.ntmps150
 go_wp2
 rw[Lib.run_to_unsafe w ⟨b,0,none⟩ Tryz.underlying111 Tryz.underlying181 aK (by rw[ZV];decide) RH (Nat.zero_lt_succ 1)]
 simp only[Result.andThen]
 rw[Oper.upon_value]
 go_wp2
 rw[run_callFunc_extern Tryz.func188 (by kernel_rfl) (by kernel_rfl) (by kernel_rfl) (e:=Extern.AbiNoEscape.same) (by kernel_rfl)]
 rw[Lib.run_noEscape]
 simp only[Result.andThen]
 rw[Oper.upon_value]
 go_wp2
 rw[Lib.run_from_unsafe w ⟨b,0,none⟩ Tryz.underlying181 Tryz.underlying111 aK RH (by kernel_rfl)]
 simp only[Result.andThen]
 rw[Oper.upon_value]
 go_wp2
 go_end0
 exact⟨rfl,rfl⟩
set_option maxHeartbeats 2000000 in
set_option maxRecDepth 100000 in
theorem Tryz.Wo (b:Nat)(eA:List Value)(s:ByteArray)(w:World)(N:Nat->Prop)(h:kR 114 5 b eA w N)(hlen:eA.length+s.size<=140737488355328):
 Calls Tryz.prog 109 #[.pointer (some ⟨b,0,none⟩), .string s] w fun r w'=>r= .returned (.tuple #[.int .i64 s.size, .nilIface])/\kR 114 5 b (eA++Lib.strCells s) w' (fun x=>N x\/w.heap.size<=x)/\jD N w w':=by
 obtain⟨p,v,aw,ec,gC,ae,eZ,cV⟩:=h
 obtain⟨i0,hi,tN,vN,ot⟩:=info_parts (show(Tryz.prog.info? 5).map (fun i=>(i.zero,i.size,i.bytes))=some (some (.int .u8 0),1,1) by kernel_rfl)
 go_enter Tryz.func109,Tryz.ntmps109
 go_wp2_with (go_at_call 150;refine(Wp Tryz.Up Tryz.TT aw ae eZ cV).mono ?_)
 rintro r cz ⟨rfl,sa,Qy,kY⟩
 have sq:cz.cell? ⟨b,0,none⟩=some (.pointer (some ⟨b,0,none⟩)):=by rw[Lib.cell_of_heap sa];rfl
 have dt:cz.cell? ⟨b,1,none⟩=some v:=by rw[Lib.cell_of_heap sa];rfl
 go_wp2_with (at_builtin;refine Vc rfl _ _ 112 9 rfl 5 i0 Tryz.underlying112 Tryz.underlying9 hi tN vN ot _ _ _ rfl Qy s rfl hlen ?_)
 intro cO dO GV tc X4
 have bB:b<cz.heap.size:=(auG.1 sa).1
 have dr:dO.heap[b]? =some (.cells #[.pointer (some ⟨b,0,none⟩),v] 114 (0,0)):=by
  rw[tc.block b bB (fun e=>cV e.symm)]
  exact sa
 have d0:dO.cell? ⟨b,0,none⟩=some (.pointer (some ⟨b,0,none⟩)):=by rw[Lib.cell_of_heap dr];rfl
 have d1:dO.cell? ⟨b,1,none⟩=some v:=by rw[Lib.cell_of_heap dr];rfl
 have f1:dO.frozen? ⟨b,1,none⟩=false:=Lib.frozen_of_heap dr 1
 have Q2:cO.ownBlock≠some b:=Lib.ownBlock_ne GV dr (by decide)
 obtain⟨Ea,n',cap,rfl⟩:∃Ea n' cap,cO= .slice Ea n' cap:=by
  rcases GV.2 with⟨aM,_⟩|⟨g,cap,cur,aM,_⟩
  ·exact⟨_,_,_,aM⟩
  ·exact⟨_,_,_,aM⟩
 go_wp2
 go_ret2
 have sb:dO.grownBy (dO.setCell ⟨b,1,none⟩ (.slice Ea n' cap)) (some b):=by
  refine⟨rfl,rfl,rfl,by simp[World.setCell],fun k _ ab=> ?_⟩
  have:b≠k:=fun e=>ab (by rw[e])
  simp[World.setCell,auo,this]
 refine⟨rfl,⟨.pointer (some ⟨b,0,none⟩), .slice Ea n' cap, .inr rfl, .inl ec,fun g aT=> ?_,by simp[World.setCell,auo,dr], ?_,Q2⟩, ?_⟩
 ·rcases X4 g aT with aT|aT
  ·exact .inl (gC g aT)
  ·exact .inr (asZ kY.size aT)
 ·rw[as2,Lib.strCells_length]
  exact GV.kept sb (.inr Q2)
 ·refine⟨sb.os.trans (tc.os.trans kY.os),sb.tape.trans (tc.tape.trans kY.tape),sb.output.trans (tc.output.trans kY.output),asZ kY.size (asZ tc.size sb.size),fun k ab j5=> ?_⟩
  have U:some k≠some b:=fun e=>j5 (by cases e;exact ec)
  have aa:some k≠v.ownBlock:=fun e=>j5 (gC k e.symm)
  rw[sb.block k (asR ab (asZ kY.size tc.size)) U,tc.block k (asR ab kY.size) aa,kY.block k ab U]
set_option maxHeartbeats 1000000 in
set_option maxRecDepth 100000 in
theorem Tryz.Vd (b:Nat)(l:List UInt8)(w:World)(N:Nat->Prop)(h:kR 114 5 b (Lib.byteCells l) w N)(aE:l≠[]):
 Calls Tryz.prog 114 #[.pointer (some ⟨b,0,none⟩)] w fun r w'=>r= .returned (.string ⟨l.toArray⟩)/\jD N w w':=by
 obtain⟨p,v,aw,ec,gC,sa,eZ,cV⟩:=h
 have ml:l.length≠0:=by simpa using aE
 rw[Lib.byteCells_length]at eZ
 obtain⟨g,cap,cur,rfl,aT,rU,pr,pB⟩:∃g cap cur,v= .slice (some ⟨g,0,none⟩) l.length cap/\w.heap[g]? =some (.cells cur 5 (0,0))/\l.length<=cap/\cap<=maxLen/\cur.size=cap*1:=by
  rcases eZ.2 with⟨_,bc⟩|⟨g,cap,cur,aM,_,c3,cP,cJ,m8,_⟩
  ·exact absurd bc ml
  ·exact⟨g,cap,cur,aM,c3,cP,cJ,m8⟩
 have pC:w.drew.heap[b]? =some (.cells #[p, .slice (some ⟨g,0,none⟩) l.length cap] 114 (0,0)):=sa
 have ow:w.drew.heap[g]? =some (.cells cur 5 (0,0)):=aT
 have dt:w.drew.cell? ⟨b,1,none⟩=some (.slice (some ⟨g,0,none⟩) l.length cap):=by rw[Lib.cell_of_heap pC];rfl
 have ajd:(Builtin.unsafeSliceData_ #[112] 160 #[.slice (some ⟨g,0,none⟩) l.length cap]).run Tryz.prog w.drew= .ok (.pointer (some ⟨g,0,none⟩)) w.drew:=
  Lib.run_unsafeSliceData_row _ _ _ _ _ _ (by omega)
 have aje:(Builtin.unsafeString_ #[160,3] 9 #[.pointer (some ⟨g,0,none⟩), .int .i64 l.length]).run Tryz.prog w.drew= .ok (.string ⟨l.toArray⟩) (w.drew.freeze ⟨g,0,none⟩ l.length):=by
  refine Lib.run_unsafeString_row w.drew 160 3 9 5 Tryz.underlying160 (by kernel_rfl) g cur.size (by simp[World.shape?,ow]) l aE (by omega) (by unfold maxLen at pr;omega) fun j x af=> ?_
  exact eZ.cells (g:=g) rfl j (.int .u8 x.toNat) (by simp[Lib.byteCells,af])
 have cr:jD N w (w.drew.freeze ⟨g,0,none⟩ l.length):=by
  unfold World.freeze
  have ZW:∀k,¬N k->g≠k:=fun k ab e=>ab (e▸gC g rfl)
  split
  ·exact⟨rfl,rfl,rfl,asz _,fun _ _ _=>rfl⟩
  ·refine⟨rfl,rfl,rfl,by simp,fun k ab j5=> ?_⟩
   simp[auo,ZW k j5];rfl
 have mixed:Tryz.prog.follows .mixedOrders=true:=by kernel_rfl
 go_enter Tryz.func114,Tryz.ntmps114
 go_wp2
 go_region_o
 all_goals (go_wp2;go_ret;exact⟨rfl,cr⟩)
theorem Tryz.builder (E:bG.Env)(β fuel:Nat):bG.x_ Tryz.prog ⟨E,β,114,5,109,114,fuel⟩where
 write:=Tryz.Wo
 read:=Tryz.Vd
 zero:=Tryz.zeroValue114
 RI:=⟨_,Tryz.func109,rfl,by kernel_rfl⟩
 RJ:=⟨_,Tryz.func114,rfl,by kernel_rfl⟩
end Go.Proofs
end
open Go Go.bG
set_option maxRecDepth 1000000
namespace Go.Proofs.YtmeonjefiioegaaGreatDoor.S
noncomputable abbrev P:Program:=Go.Proofs.Tryz.prog
def aj3:List (Nat×bQ):=[(1,{ty:= .bS (.other)}),
(2,{ty:= .bS (.int .i64)}),
(3,{ty:= .bS (.int .i64)}),
(4,{ty:= .bS (.bool)}),
(5,{ty:= .bS (.int .u8)}),
(9,{ty:= .bS (.str)}),
(12,{ty:= .bS (.int .u64)}),
(22,{ty:= .bS (.sints .i64),elem:=3,bytes:=8,hC:=[.int .i64],lit:=true}),
(23,{ty:= .bS (.other)}),
(25,{ty:= .bS (.srows 11),elem:=41,bytes:=120,hC:=[.int .i64, .int .i64, .int .i64, .int .i64, .int .i64, .int .i64, .int .i64, .int .i64, .bool, .sints .u32, .sints .u32],lit:=true}),
(26,{ty:= .bS (.srows 11),elem:=41,bytes:=120,hC:=[.int .i64, .int .i64, .int .i64, .int .i64, .int .i64, .int .i64, .int .i64, .int .i64, .bool, .sints .u32, .sints .u32],lit:=true}),
(28,{ty:= .bS (.int .i64)}),
(36,{ty:= .arr 8 (.bS (.int .i64)) [.int .i64, .int .i64, .int .i64, .int .i64, .int .i64, .int .i64, .int .i64, .int .i64]}),
(37,{ty:= .bS (.sints .u32),elem:=84,bytes:=4,hC:=[.int .u32],lit:=true}),
(39,{ty:= .struct [(0,1, .bS (.bool)),(1,1, .bS (.sints .u32)),(2,1, .bS (.sints .u32))] [.bool, .sints .u32, .sints .u32]}),
(41,{ty:= .struct [(0,8, .arr 8 (.bS (.int .i64)) [.int .i64, .int .i64, .int .i64, .int .i64, .int .i64, .int .i64, .int .i64, .int .i64]),(8,3, .struct [(0,1, .bS (.bool)),(1,1, .bS (.sints .u32)),(2,1, .bS (.sints .u32))] [.bool, .sints .u32, .sints .u32])] [.int .i64, .int .i64, .int .i64, .int .i64, .int .i64, .int .i64, .int .i64, .int .i64, .bool, .sints .u32, .sints .u32]}),
(54,{ty:= .bS (.other)}),
(75,{ty:= .struct [(0,1, .bS (.sints .i64)),(1,1, .bS (.int .i64)),(2,1, .bS (.int .i64))] [.sints .i64, .int .i64, .int .i64]}),
(81,{ty:= .bS (.srows 1),elem:=9,bytes:=16,hC:=[.str],lit:=true}),
(84,{ty:= .bS (.int .u32)}),
(101,{ty:= .bS (.other),mp:=some (8,36,39)}),
(102,{ty:= .bS (.srows 8),elem:=36,bytes:=64,hC:=[.int .i64, .int .i64, .int .i64, .int .i64, .int .i64, .int .i64, .int .i64, .int .i64],lit:=true}),
(106,{ty:= .bS (.other)}),
(108,{ty:= .struct [(0,1, .bS (.bool))] [.bool]}),
(112,{ty:= .bS (.sints .u8),elem:=5,bytes:=1,hC:=[.int .u8],lit:=true}),
(114,{ty:= .struct [(0,1, .bS (.other)),(1,1, .bS (.sints .u8))] [.other, .sints .u8]}),
(124,{ty:= .bS (.int .u64)}),
(125,{ty:= .bS (.int .u64)}),
(129,{ty:= .struct [(0,1, .bS (.bool))] [.bool]}),
(131,{ty:= .struct [(0,1, .bS (.sints .u32)),(1,1, .bS (.sints .u32))] [.sints .u32, .sints .u32]}),
(133,{ty:= .struct [(0,1, .struct [(0,1, .bS (.bool))] [.bool]),(1,2, .struct [(0,1, .bS (.sints .u32)),(1,1, .bS (.sints .u32))] [.sints .u32, .sints .u32])] [.bool, .sints .u32, .sints .u32]}),
(152,{ty:= .bS (.other),mp:=some (8,36,3)}),
(155,{ty:= .bS (.other)}),
(157,{ty:= .struct [(0,1, .bS (.int .i64))] [.int .i64]}),
(172,{ty:= .bS (.int .i64)}),
(189,{ty:= .bS (.int .u64)}),
(193,{ty:= .bS (.other)}),
(196,{ty:= .arr 24 (.bS (.int .u8)) [.int .u8, .int .u8, .int .u8, .int .u8, .int .u8, .int .u8, .int .u8, .int .u8, .int .u8, .int .u8, .int .u8, .int .u8, .int .u8, .int .u8, .int .u8, .int .u8, .int .u8, .int .u8, .int .u8, .int .u8, .int .u8, .int .u8, .int .u8, .int .u8]}),
(202,{ty:= .bS (.other)})]
theorem aob:YU P aj3=true:=by kernel_rfl
theorem wq:P.follows .mixedOrders=true:=by kernel_rfl
theorem ua {L:si P}{h m:List (Nat×Head)}(aL:xB (rQ L)=true:=by kernel_rfl):hT P (R4 aj3 L h m):=aiF aob aL wq
noncomputable def arv:Env:=R4 (P:=P) aj3 [] [] []
theorem aqf:wB P 11 [.bS (.sints .i64)] I.B8.T:=ajv arv ua Go.Proofs.Tryz.f11 2 (ahj _) (I.afs fun l K aog=>aiG (by kernel_rfl) (I.agm l K aog))
noncomputable def arw:Env:=R4 (P:=P) aj3 [] [] []
theorem arx:wC P 99 [] I.B9.T:=ajw arw ua Go.Proofs.Tryz.f99 [.tmp 2] [Go.bG.ajV] (aga _) (I.aft fun l a s K aog=>aih (by kernel_rfl) (I.ac5 l a s K aog))
noncomputable def ary:Env:=R4 (P:=P) aj3 [⟨_,arx.d⟩] [] []
theorem ao_:wC P 52 [Go.bG.ajV] I.Dh.T:=ajw ary ua Go.Proofs.Tryz.f52 [.tmp 4] [Go.bG.ajV] (aga _) (I.ahv fun l a s n K aog=>aih (by kernel_rfl) (I.adq l a s n K aog))
noncomputable def arz:Env:=R4 (P:=P) aj3 [⟨_,ao_.d⟩] [] []
theorem aqg:wC P 43 [Go.bG.ajV,Go.bG.ajV] I.Ba.T:=ajw arz ua Go.Proofs.Tryz.f43 [.tmp 6] [Go.bG.ajV] (aga _) (I.aep fun l a s x y K aog=>aih (by kernel_rfl) (I.acW l a s x y K aog))
noncomputable def anB:Env:=R4 (P:=P) aj3 [] [(0,{od:=[(0, .e1),(3, .bS (.int .i64))]})] []
theorem akM:wA P 115 [Go.bG.ajW] I.AT.T:=aju anB ua Go.Proofs.Tryz.f115 2 Go.bG.ajW (ahj _) (I.ad_ fun a K aog=>aiG (by kernel_rfl) (I.aeJ a K aog))
noncomputable def an0:Env:=R4 (P:=P) aj3 [⟨_,akM.d⟩] [] []
theorem an1:wy P 61 [Go.bG.ajV] I.z8.T:=ajs an0 ua Go.Proofs.Tryz.f61 [.tmp 2, .tmp 3] [Go.bG.ajW,Go.bG.ajV] (ahm _) (I.ade fun n K aog=>aiG (by kernel_rfl) (I.adr n K aog))
noncomputable def an2:Env:=R4 (P:=P) aj3 [⟨_,akM.d⟩] [(0,{od:=[(0, .e1),(1, .e1),(5, .e1),(6, .bS (.int .u64)),(7, .bS (.int .i64))],own:=[.ints .u32]})] [(24,{od:=[(0, .e1),(1, .e1),(5, .e1),(6, .bS (.int .u64)),(7, .e1)],own:=[.e1]}),(35,{od:=[(0, .e1),(1, .e1),(5, .e1),(6, .bS (.int .u64)),(7, .e1)],own:=[.e1]})]
theorem an3:wy P 62 [Go.bG.ajW,Go.bG.ajW] I.Bp.T:=ajs an2 ua Go.Proofs.Tryz.f62 [.tmp 4] [Go.bG.ajW] (ahm _) (I.aeC fun a b K aog=>aiG (by kernel_rfl) (I.afv a b K aog))
noncomputable def an4:Env:=R4 (P:=P) aj3 [⟨_,an1.n⟩,⟨_,an3.n⟩] [] []
theorem an5:wy P 19 [Go.bG.ajV] I.td.T:=ajs an4 ua Go.Proofs.Tryz.f19 [.cell 2 39] [Go.bG.aj1] (ahm _) (I.agV fun n K aog=>aiG (by kernel_rfl) (I.ah1 n K aog))
noncomputable def aq6:Env:=R4 (P:=P) aj3 [⟨_,akM.d⟩] [(0,{od:=[(0, .e1),(1, .e1),(5, .bS (.int .i64))],own:=[.e1, .e1]})] []
theorem aq7:wy P 127 [Go.bG.ajW,Go.bG.ajW] I.Bo.T:=ajs aq6 ua Go.Proofs.Tryz.f127 [.tmp 4] [Go.bG.ajV] (ahm _) (I.aeB fun a b K aog=>aiG (by kernel_rfl) (I.afz a b K aog))
noncomputable def aq8:Env:=R4 (P:=P) aj3 [⟨_,akM.d⟩] [(0,{od:=[(0, .e1),(1, .e1),(6, .e1),(7, .bS (.int .u64)),(8, .bS (.int .i64))],own:=[.ints .u32]})] []
theorem aq9:wy P 159 [Go.bG.ajW, .bS (.int .u32)] I.AB.T:=ajs aq8 ua Go.Proofs.Tryz.f159 [.tmp 4, .tmp 5] [Go.bG.ajW, .bS (.int .u32)] (ahm _) (I.adK fun a d K aog=>aiG (by kernel_rfl) (I.aed a d K aog))
noncomputable def aq_:Env:=R4 (P:=P) aj3 [] [(0,{od:=[(0, .e1),(1, .e1),(5, .e1),(6, .bS (.int .u64)),(7, .bS (.int .i64))],own:=[.ints .u32]})] []
theorem ara:wA P 160 [Go.bG.ajW,Go.bG.ajV] I.AE.T:=aju aq_ ua Go.Proofs.Tryz.f160 4 Go.bG.ajW (ahj _) (I.adM fun a k K aog=>aiG (by kernel_rfl) (I.aec a k K aog))
noncomputable def arb:Env:=R4 (P:=P) aj3 [] [(0,{od:=[(0, .e1),(1, .e1),(2, .e1),(7, .e1),(9, .bS (.int .u64)),(10, .bS (.int .u64))],own:=[.e1]}),(2,{od:=[(0, .e1),(1, .e1),(2, .e1),(7, .e1),(9, .e1),(11, .bS (.int .u64)),(12, .bS (.int .u64)),(13, .bS (.int .i64))],own:=[.ints .u32]}),(4,{od:=[(0, .e1),(1, .e1),(2, .e1),(7, .e1),(9, .e1),(12, .bS (.int .u64)),(17, .bS (.int .i64))],own:=[.ints .u32]})] [(100000,{od:=[(0, .e1),(1, .e1),(2, .e1),(7, .e1),(9, .bS (.int .u64))],own:=[.e1]}),(102,{od:=[(0, .e1),(1, .e1),(2, .e1),(7, .e1),(9, .e1),(11, .e1),(13, .e1),(14, .bS (.int .u64))],own:=[.e1]}),(127,{od:=[(0, .e1),(1, .e1),(2, .e1),(7, .e1),(9, .e1),(11, .bS (.int .u64)),(12, .e1),(13, .e1),(15, .e1),(16, .bS (.int .u64))],own:=[.e1]}),(159,{od:=[(0, .e1),(1, .e1),(2, .e1),(7, .e1),(9, .e1),(17, .e1),(18, .bS (.int .u64))],own:=[.e1]})]
theorem arc:wC P 161 [Go.bG.ajW,Go.bG.ajV] I.AF.T:=ajw arb ua Go.Proofs.Tryz.f161 [.tmp 6] [.bS (.int .u32)] (aga _) (I.adN fun u v j K aog=>aih (by kernel_rfl) (I.ad4 u v j K aog))
noncomputable def ard:Env:=R4 (P:=P) aj3 [⟨_,akM.d⟩] [(0,{od:=[(0, .e1),(1, .e1),(5, .e1),(6, .bS (.int .i64))],own:=[.ints .u32]})] [(26,{od:=[(0, .e1),(1, .e1),(5, .e1),(6, .e1),(7, .bS (.int .u64))],own:=[.e1]})]
theorem are:wy P 162 [Go.bG.ajW,Go.bG.ajV] I.z_.T:=ajs ard ua Go.Proofs.Tryz.f162 [.tmp 4] [Go.bG.ajW] (ahm _) (I.adf fun a k K aog=>aiG (by kernel_rfl) (I.ads a k K aog))
noncomputable def arf:Env:=R4 (P:=P) aj3 [⟨_,akM.n⟩,⟨_,aq7.n⟩,⟨_,aq9.n⟩,⟨_,ara.n⟩,⟨_,arc.d⟩,⟨_,are.n⟩] [(0,{od:=[(0, .e1),(1, .e1),(9, .bS (.int .i64))],own:=[.e1, .e1]}),(2,{od:=[(9, .e1),(10, .e1),(11, .bS (.sints .u32)),(12, .e1),(13, .bS (.int .i64))],own:=[.e1, .e1, .ints .u32, .e1, .e1, .ints .u32],conv:=[(11, .other)]})] []
theorem ap7:wy P 126 [Go.bG.ajW,Go.bG.ajW] I.Ap.T:=ajs arf ua Go.Proofs.Tryz.f126 [.tmp 4, .tmp 5, .tmp 6] [Go.bG.ajW,Go.bG.ajW,Go.bG.ajV] (ahm _) (I.adn fun a b K aog=>aiG (by kernel_rfl) (I.adm a b K aog))
noncomputable def arh:Env:=R4 (P:=P) aj3 [⟨_,akM.n⟩,⟨_,ap7.n⟩] [(0,{od:=[(0, .bS (.sints .u32)),(1, .bS (.sints .u32))],own:=[.e1, .e1],conv:=[(0, .other),(1, .other)]})] []
theorem ari:wy P 125 [Go.bG.ajW,Go.bG.ajW] I.Bs.T:=ajs arh ua Go.Proofs.Tryz.f125 [.tmp 4] [Go.bG.ajW] (ahm _) (I.aeF fun a b K aog=>aiG (by kernel_rfl) (I.aew a b K aog))
noncomputable def arA:Env:=R4 (P:=P) aj3 [⟨_,ari.n⟩,⟨_,ap7.n⟩] [] []
theorem arB:wy P 76 [Go.bG.ajX,Go.bG.ajW,Go.bG.ajW] I.BK.T:=ajs arA ua Go.Proofs.Tryz.f76 [.cell 6 39] [Go.bG.aj1] (ahm _) (I.aeZ fun s a b K aog=>aiG (by kernel_rfl) (I.ae7 s a b K aog))
noncomputable def arC:Env:=R4 (P:=P) aj3 [⟨_,an5.n⟩,⟨_,arB.n⟩] [] []
theorem arD:wy P 89 [Go.bG.ajV,Go.bG.ajV] I.xL.T:=ajs arC ua Go.Proofs.Tryz.f89 [.cell 4 39, .tmp 5] [Go.bG.aj1,Go.bG.ajV] (ahm _) (I.agW fun n d K aog=>aiG (by kernel_rfl) (I.ah2 n d K aog))
noncomputable def arE:Env:=R4 (P:=P) aj3 [⟨_,aqg.n⟩,⟨_,arD.n⟩] [] []
theorem aqh:wC P 44 [] I.Ct.T:=ajw arE ua Go.Proofs.Tryz.f44 [.cell 2 39] [Go.bG.aj1] (aga _) (I.afY fun l a s K aog=>aih (by kernel_rfl) (I.adb l a s K aog))
noncomputable def arF:Env:=R4 (P:=P) aj3 [⟨_,ao_.d⟩] [] []
theorem aqi:wC P 45 [.bS (.sints .i64)] I.By.T:=ajw arF ua Go.Proofs.Tryz.f45 [.tmp 4] [Go.bG.ajV] (aga _) (I.aeI fun l a s m K aog=>aih (by kernel_rfl) (I.acZ l a s m K aog))
noncomputable def arG:Env:=R4 (P:=P) aj3 [⟨_,aqi.d⟩,⟨_,ao_.d⟩] [(0,{od:=[(0, .e1),(3, .e1),(4, .bS (.int .i64))],own:=[.cells [.sints .i64, .int .i64, .int .i64], .ints .u32],conv:=[(3, .sints .u32)]})] []
theorem arH:wC P 90 [] I.AV.T:=ajw arG ua Go.Proofs.Tryz.f90 [.tmp 2] [Go.bG.ajW] (aga _) (I.aea fun l a s K aog=>aih (by kernel_rfl) (I.acN l a s K aog))
noncomputable def arI:Env:=R4 (P:=P) aj3 [⟨_,aqg.n⟩,⟨_,aqh.n⟩,⟨_,ao_.n⟩,⟨_,arH.n⟩] [] []
theorem arJ:wC P 46 [] I.Bb.T:=ajw arI ua Go.Proofs.Tryz.f46 [.cell 2 39] [Go.bG.aj1] (aga _) (I.aeq fun l a s K aog=>aih (by kernel_rfl) (I.acX l a s K aog))
noncomputable def arK:Env:=R4 (P:=P) aj3 [⟨_,aqh.n⟩,⟨_,aqi.n⟩,⟨_,arJ.n⟩,⟨_,ao_.n⟩] [(0,{od:=[(0, .e1),(1, .e1),(7, .e1),(8, .bS (.int .i64))],own:=[.cells [.sints .i64, .int .i64, .int .i64], .rows 11],conv:=[(7, .srows 11)]}),(2,{od:=[(0, .e1),(1, .e1),(7, .e1),(8, .e1),(9, .e1),(10, .bS (.int .i64))],own:=[.cells [.sints .i64, .int .i64, .int .i64], .rows 11, .rows 11]})] [(24,{od:=[(0, .e1),(1, .e1),(7, .e1),(8, .e1),(9, .e1)],own:=[.cells [.sints .i64, .int .i64, .int .i64], .rows 11, .rows 11]})]
theorem aqj:wC P 12 [Go.bG.ajV,Go.bG.ajV] I.ao3.T:=ajw arK ua Go.Proofs.Tryz.f12 [.tmp 6] [Go.bG.ajY] (aga _) (I.aqN fun l a s v n K aog=>aih (by kernel_rfl) (I.aqF l a s v n K aog))
noncomputable def anD:Env:=R4 (P:=P) aj3 [] [(0,{od:=[(7, .e1),(8, .e1),(9, .bS (.int .i64))]}),(2,{od:=[(7, .e1),(8, .e1),(9, .e1),(14, .e1),(15, .bS (.int .i64))],own:=[.e1]})] []
theorem aj8:wy P 53 [Go.bG.ajY] I.u7.T:=ajs anD ua Go.Proofs.Tryz.f53 [.tmp 2] [Go.bG.ajX] (ahm _) (I.afJ fun p K aog=>aiG (by kernel_rfl) (I.acy p K aog))
noncomputable def alY:Env:=R4 (P:=P) aj3 [] [] []
theorem aj_:wy P 118 [Go.bG.aj1] I.Dq.T:=ajs alY ua Go.Proofs.Tryz.f118 [.cell 2 39] [Go.bG.aj1] (ahm _) (I.ahO fun s a b K aog=>aiG (by kernel_rfl) (I.acG s a b K aog))
noncomputable def alZ:Env:=R4 (P:=P) aj3 [] [(0,{od:=[(0, .bS (.sints .u32))]})] []
theorem aj6:wy P 173 [Go.bG.ajW] I.CG.T:=ajs alZ ua Go.Proofs.Tryz.f173 [.tmp 2] [Go.bG.ajW] (ahm _) (I.agd fun a K aog=>aiG (by kernel_rfl) (I.ahy a K aog))
noncomputable def al0:Env:=R4 (P:=P) ((37,{ty:= .bS (.sints .u32),elem:=84,bytes:=4,hC:=[.int .u32]})::aj3) [] [] []
theorem akp:wy P 194 [Go.bG.ajW] I.B0.T:=ajs al0 (aiF (by kernel_rfl) (by kernel_rfl) wq) Go.Proofs.Tryz.f194 [.tmp 2] [Go.bG.ajW] (ahm _) (I.afm fun a K aog=>aiG (by kernel_rfl) (I.aeK a K aog))
noncomputable def al1:Env:=R4 (P:=P) aj3 [⟨_,aj6.d⟩,⟨_,akp.d⟩] [] []
theorem ake:wy P 155 [Go.bG.ajW] I.CH.T:=ajs al1 ua Go.Proofs.Tryz.f155 [.tmp 2] [Go.bG.ajW] (ahm _) (I.age fun a K aog=>aiG (by kernel_rfl) (I.ahz a K aog))
noncomputable def al2:Env:=R4 (P:=P) aj3 [⟨_,aj6.d⟩] [(0,{od:=[(0, .e1),(1, .e1),(5, .bS (.int .i64))]})] []
theorem aka:wy P 171 [Go.bG.ajW,Go.bG.ajW] I.C_.T:=ajs al2 ua Go.Proofs.Tryz.f171 [.tmp 4] [Go.bG.ajV] (ahm _) (I.aho fun a b K aog=>aiG (by kernel_rfl) (I.ail a b K aog))
noncomputable def al3:Env:=R4 (P:=P) aj3 [] [] [(15,{od:=[(0, .e1),(1, .e1),(2, .e1)]})]
theorem al4:wy P 206 [.bS (.int .u32), .bS (.int .u32), .bS (.int .u32)] I.BZ.T:=ajs al3 ua Go.Proofs.Tryz.f206 [.tmp 6, .tmp 7] [.bS (.int .u32), .bS (.int .u32)] (ahm _) (I.afl fun h l y K aog=>aiG (by kernel_rfl) (I.adU h l y K aog))
noncomputable def al5:Env:=R4 (P:=P) aj3 [⟨_,aj6.d⟩,⟨_,al4.d⟩] [(0,{od:=[(0, .e1),(1, .e1),(6, .e1),(7, .bS (.int .u32)),(8, .bS (.int .i64))],own:=[.ints .u32]})] []
theorem akq:wy P 190 [Go.bG.ajW, .bS (.int .u32)] I.B1.T:=ajs al5 ua Go.Proofs.Tryz.f190 [.tmp 4, .tmp 5] [Go.bG.ajW, .bS (.int .u32)] (ahm _) (I.afn fun a d K aog=>aiG (by kernel_rfl) (I.ago a d K aog))
noncomputable def al6:Env:=R4 (P:=P) aj3 [⟨_,aj6.d⟩] [] []
theorem akr:wy P 196 [.bS (.int .u64)] I.Az.T:=ajs al6 ua Go.Proofs.Tryz.f196 [.tmp 2] [Go.bG.ajW] (ahm _) (I.adI fun u K aog=>aiG (by kernel_rfl) (I.aee u K aog))
noncomputable def al7:Env:=R4 (P:=P) aj3 [] [] [(4,{od:=[(0, .bS (.int .u32)),(2, .bS (.int .i64))]})]
theorem aks:wy P 184 [.bS (.int .u32)] I.B4.T:=ajs al7 ua Go.Proofs.Tryz.f184 [.tmp 2] [Go.bG.ajV] (ahm _) (I.afq fun x K aog=>aiG (by kernel_rfl) (I.adO x K aog))
noncomputable def al8:Env:=R4 (P:=P) aj3 [⟨_,aks.d⟩] [] []
theorem al9:wy P 212 [.bS (.int .u32)] I.AS.T:=ajs al8 ua Go.Proofs.Tryz.f212 [.tmp 2] [Go.bG.ajV] (ahm _) (I.ad9 fun x K aog=>aiG (by kernel_rfl) (I.ab_ x K aog))
noncomputable def al_:Env:=R4 (P:=P) aj3 [] [(0,{od:=[(1, .e1),(5, .e1),(13, .e1),(14, .e1),(15, .bS (.int .i64))],own:=[.ints .u32]})] []
theorem ama:wA P 213 [Go.bG.ajW, .bS (.int .u64)] I.B5.T:=aju al_ ua Go.Proofs.Tryz.f213 4 Go.bG.ajW (ahj _) (I.afr fun a k K aog=>aiG (by kernel_rfl) (I.agk a k K aog))
noncomputable def amb:Env:=R4 (P:=P) aj3 [⟨_,aj6.n⟩,⟨_,al9.n⟩,⟨_,ama.n⟩] [(0,{od:=[(4, .e1),(6, .e1),(7, .e1),(8, .e1),(9, .e1),(10, .e1),(11, .e1),(12, .bS (.int .i64))],own:=[.ints .u32, .e1, .ints .u32]}),(2,{od:=[(4, .e1),(6, .e1),(7, .e1),(8, .e1),(9, .e1),(10, .e1),(11, .e1),(12, .e1),(14, .bS (.int .u64)),(15, .bS (.int .u64))],own:=[.e1, .e1, .e1]}),(4,{od:=[(4, .e1),(6, .e1),(7, .e1),(8, .e1),(9, .e1),(10, .e1),(11, .e1),(12, .e1),(14, .e1),(16, .bS (.int .u64)),(17, .bS (.int .u64)),(117, .e1),(118, .e1),(119, .bS (.int .i64))],own:=[.ints .u32, .e1, .ints .u32]}),(6,{od:=[(4, .e1),(6, .e1),(7, .e1),(8, .e1),(9, .e1),(10, .e1),(11, .e1),(12, .e1),(14, .e1),(17, .bS (.int .u64)),(177, .e1),(178, .e1),(179, .bS (.int .i64))],own:=[.ints .u32, .e1, .ints .u32]}),(8,{od:=[(4, .e1),(5, .e1),(6, .e1),(7, .e1),(223, .e1),(224, .bS (.int .i64))],own:=[.ints .u32, .e1, .ints .u32, .ints .u32]})] [(100002,{od:=[(4, .e1),(6, .e1),(7, .e1),(8, .e1),(9, .e1),(10, .e1),(11, .e1),(12, .e1),(14, .bS (.int .u64))],own:=[.e1, .e1, .e1]}),(174,{od:=[(4, .e1),(6, .e1),(7, .e1),(8, .e1),(9, .e1),(10, .e1),(11, .e1),(12, .e1),(14, .bS (.int .u64))],own:=[.ints .u32, .e1, .ints .u32]})]
theorem amc:wy P 197 [Go.bG.ajW,Go.bG.ajW] I.CJ.T:=ajs amb ua Go.Proofs.Tryz.f197 [.tmp 4, .tmp 5] [Go.bG.ajW,Go.bG.ajW] (ahm _) (I.agf fun a b K aog=>aiG (by kernel_rfl) (I.ahx a b K aog))
noncomputable def amd:Env:=R4 (P:=P) aj3 [⟨_,aka.d⟩,⟨_,aj6.d⟩,⟨_,akq.d⟩,⟨_,akp.d⟩,⟨_,akr.d⟩,⟨_,amc.d⟩] [] []
theorem akt:wy P 157 [Go.bG.ajW,Go.bG.ajW] I.Bm.T:=ajs amd ua Go.Proofs.Tryz.f157 [.tmp 4, .tmp 5, .tmp 6] [Go.bG.ajW,Go.bG.ajW,Go.bG.ajV] (ahm _) (I.aez fun a b K aog=>aiG (by kernel_rfl) (I.afu a b K aog))
noncomputable def ame:Env:=R4 (P:=P) aj3 [] [(0,{od:=[(3, .bS (.int .u64)),(6, .e1),(7, .e1),(8, .bS (.int .i64))]})] []
theorem amf:wy P 195 [Go.bG.ajW] I.Bl.T:=ajs ame ua Go.Proofs.Tryz.f195 [.tmp 2] [.bS (.int .u64)] (ahm _) (I.aey fun a K aog=>aiG (by kernel_rfl) (I.afg a K aog))
noncomputable def amg:Env:=R4 (P:=P) aj3 [⟨_,ake.n⟩,⟨_,akt.n⟩,⟨_,amf.n⟩,⟨_,akr.n⟩] [(0,{od:=[(0, .bS (.sints .u32)),(1, .bS (.sints .u32))]}),(2,{od:=[(8, .bS (.int .u64)),(9, .bS (.int .u64))]})] []
theorem amh:wy P 156 [Go.bG.ajW,Go.bG.ajW] I.De.T:=ajs amg ua Go.Proofs.Tryz.f156 [.tmp 4] [Go.bG.ajW] (ahm _) (I.ahu fun a b K aog=>aiG (by kernel_rfl) (I.aip a b K aog))
noncomputable def ami:Env:=R4 (P:=P) aj3 [⟨_,ake.n⟩,⟨_,amh.n⟩,⟨_,akt.n⟩] [] []
theorem akb:wy P 117 [Go.bG.ajX,Go.bG.ajW,Go.bG.ajW] I.BG.T:=ajs ami ua Go.Proofs.Tryz.f117 [.cell 6 133] [Go.bG.aj1] (ahm _) (I.aeU fun s a b K aog=>aiG (by kernel_rfl) (I.ae2 s a b K aog))
noncomputable def amj:Env:=R4 (P:=P) aj3 [⟨_,aka.n⟩] [] []
theorem amk:wy P 169 [Go.bG.ajW] I.BH.T:=ajs amj ua Go.Proofs.Tryz.f169 [.tmp 2] [Go.bG.ajX] (ahm _) (I.aeV fun a K aog=>aiG (by kernel_rfl) (I.ae3 a K aog))
noncomputable def aml:Env:=R4 (P:=P) aj3 [⟨_,akb.n⟩,⟨_,amk.n⟩] [] []
theorem aj7:wy P 139 [Go.bG.aj1] I.xj.T:=ajs aml ua Go.Proofs.Tryz.f139 [.cell 2 133] [Go.bG.aj1] (ahm _) (I.aeW fun s a b K aog=>aiG (by kernel_rfl) (I.ae4 s a b K aog))
noncomputable def amm:Env:=R4 (P:=P) aj3 [] [] []
theorem aku:wy P 140 [Go.bG.ajW] I.Dr.T:=ajs amm ua Go.Proofs.Tryz.f140 [.tmp 2] [Go.bG.ajX] (ahm _) (I.ahP fun a K aog=>aiG (by kernel_rfl) (I.ahR a K aog))
noncomputable def amn:Env:=R4 (P:=P) aj3 [] [] []
theorem akv:wy P 175 [.bS (.int .u32), .bS (.int .u32), .bS (.int .u32)] I.BX.T:=ajs amn ua Go.Proofs.Tryz.f175 [.tmp 6, .tmp 7] [.bS (.int .u32), .bS (.int .u32)] (ahm _) (I.afj fun x y c K aog=>aiG (by kernel_rfl) (I.adT x y c K aog))
noncomputable def amo:Env:=R4 (P:=P) aj3 [⟨_,aj6.d⟩,⟨_,akv.d⟩] [(0,{od:=[(0, .e1),(1, .e1),(5, .e1),(6, .bS (.int .u32)),(21, .e1),(22, .e1),(23, .bS (.int .i64))],own:=[.ints .u32]})] [(14,{od:=[(0, .bS (.sints .u32)),(1, .bS (.sints .u32))]}),(31,{od:=[(0, .e1),(1, .e1),(5, .e1),(6, .e1),(7, .e1),(8, .e1),(9, .bS (.int .u32)),(21, .e1),(22, .e1),(23, .e1)],own:=[.e1]})]
theorem amp:wy P 170 [Go.bG.ajW,Go.bG.ajW] I.h5.T:=ajs amo ua Go.Proofs.Tryz.f170 [.tmp 4] [Go.bG.ajW] (ahm _) (I.ahp fun a b K aog=>aiG (by kernel_rfl) (I.aiq a b K aog))
noncomputable def amq:Env:=R4 (P:=P) aj3 [] [] []
theorem amr:wy P 198 [.bS (.int .u32), .bS (.int .u32), .bS (.int .u32)] I.BY.T:=ajs amq ua Go.Proofs.Tryz.f198 [.tmp 6, .tmp 7] [.bS (.int .u32), .bS (.int .u32)] (ahm _) (I.afk fun x y c K aog=>aiG (by kernel_rfl) (I.adG x y c K aog))
noncomputable def ams:Env:=R4 (P:=P) aj3 [⟨_,aka.d⟩,⟨_,aj6.d⟩,⟨_,amr.d⟩] [(0,{od:=[(1, .e1),(6, .e1),(7, .bS (.int .u32)),(22, .e1),(23, .e1),(24, .bS (.int .i64))],own:=[.ints .u32]})] [(32,{od:=[(1, .e1),(6, .e1),(7, .e1),(8, .e1),(9, .e1),(10, .bS (.int .u32)),(22, .e1),(23, .e1),(24, .e1)],own:=[.e1]})]
theorem amt:wy P 172 [Go.bG.ajW,Go.bG.ajW] I.Db.T:=ajs ams ua Go.Proofs.Tryz.f172 [.tmp 4, .tmp 5] [Go.bG.ajW,Go.bG.ajV] (ahm _) (I.ahr fun a b K aog=>aiG (by kernel_rfl) (I.aim a b K aog))
noncomputable def amu:Env:=R4 (P:=P) aj3 [⟨_,akb.n⟩,⟨_,amp.n⟩,⟨_,aka.n⟩,⟨_,amt.n⟩] [] [(25,{od:=[(0, .bS (.bool)),(1, .bS (.sints .u32)),(3, .bS (.sints .u32)),(4, .e1),(10, .e1)],own:=[.e1]})]
theorem amv:wy P 141 [Go.bG.ajX,Go.bG.ajW,Go.bG.ajX,Go.bG.ajW,Go.bG.ajW] I.A9.T:=ajs amu ua Go.Proofs.Tryz.f141 [.cell 10 133] [Go.bG.aj1] (ahm _) (I.aem fun s a t b d K aog=>aiG (by kernel_rfl) (I.aeu s a t b d K aog))
noncomputable def amw:Env:=R4 (P:=P) aj3 [] [] []
theorem amx:wy P 174 [.bS (.int .u32), .bS (.int .u32)] I.BW.T:=ajs amw ua Go.Proofs.Tryz.f174 [.tmp 4, .tmp 5] [.bS (.int .u32), .bS (.int .u32)] (ahm _) (I.afi fun x y K aog=>aiG (by kernel_rfl) (I.adS x y K aog))
noncomputable def amy:Env:=R4 (P:=P) aj3 [⟨_,aj6.d⟩,⟨_,amx.d⟩,⟨_,akv.d⟩] [(0,{od:=[(1, .e1),(5, .e1),(24, .e1),(25, .e1),(26, .bS (.int .i64))],own:=[.ints .u32]}),(2,{od:=[(1, .e1),(5, .e1),(6, .e1),(7, .e1),(8, .bS (.int .u32)),(24, .e1),(25, .e1),(26, .e1),(31, .e1),(32, .e1),(33, .bS (.int .i64))],own:=[.ints .u32]})] []
theorem akw:wy P 142 [Go.bG.ajW,Go.bG.ajW] I.Da.T:=ajs amy ua Go.Proofs.Tryz.f142 [.tmp 4] [Go.bG.ajW] (ahm _) (I.ahq fun a b K aog=>aiG (by kernel_rfl) (I.ais a b K aog))
noncomputable def amz:Env:=R4 (P:=P) aj3 [⟨_,aj_.n⟩,⟨_,aj7.n⟩,⟨_,aku.n⟩,⟨_,amv.n⟩,⟨_,akw.n⟩] [] []
theorem akf:wy P 100 [Go.bG.aj1,Go.bG.aj1] I.xM.T:=ajs amz ua Go.Proofs.Tryz.f100 [.cell 4 39] [Go.bG.aj1] (ahm _) (I.agX fun s a b t c d K aog=>aiG (by kernel_rfl) (I.ahU s a b t c d K aog))
noncomputable def amA:Env:=R4 (P:=P) aj3 [⟨_,aj7.n⟩] [] []
theorem akc:wy P 101 [Go.bG.aj1] I.va.T:=ajs amA ua Go.Proofs.Tryz.f101 [.tmp 2] [Go.bG.ajV] (ahm _) (I.afU fun s a b K aog=>aiG (by kernel_rfl) (I.ag8 s a b K aog))
noncomputable def amB:Env:=R4 (P:=P) aj3 [] [] []
theorem amC:wy P 204 [Go.bG.ajV] I.Ca.T:=ajs amB ua Go.Proofs.Tryz.f204 [.tmp 2] [Go.bG.ajX] (ahm _) (I.afE fun a K aog=>aiG (by kernel_rfl) (I.acO a K aog))
noncomputable def amD:Env:=R4 (P:=P) aj3 [⟨_,amC.n⟩] [] []
theorem amE:wy P 186 [Go.bG.ajV,Go.bG.ajV] I.CN.T:=ajs amD ua Go.Proofs.Tryz.f186 [.tmp 4] [Go.bG.ajV] (ahm _) (I.agw fun a b K aog=>aiG (by kernel_rfl) (I.acv a b K aog))
noncomputable def amF:Env:=R4 (P:=P) aj3 [⟨_,amE.n⟩] [(0,{od:=[(0, .e1),(1, .e1),(9, .e1),(10, .e1),(11, .bS (.int .i64))]})] []
theorem akx:wy P 145 [.bS (.sints .i64), .bS (.sints .i64)] I.AW.T:=ajs amF ua Go.Proofs.Tryz.f145 [.tmp 4] [Go.bG.ajV] (ahm _) (I.aeh fun a b K aog=>aiG (by kernel_rfl) (I.ab5 a b K aog))
noncomputable def amG:Env:=R4 (P:=P) aj3 [⟨_,akx.n⟩] [] []
theorem aj4:wz P 103 [.struct [] [.bool], .struct [] [.int .i64, .int .i64, .int .i64, .int .i64, .int .i64, .int .i64, .int .i64, .int .i64, .bool, .sints .u32, .sints .u32], .struct [] [.int .i64, .int .i64, .int .i64, .int .i64, .int .i64, .int .i64, .int .i64, .int .i64, .bool, .sints .u32, .sints .u32]] (I.pf.T ⟨103,true⟩):=ajt amG ua Go.Proofs.Tryz.f103 [.tmp 6] (ahm _) (I.agQ 103 fun a b K aog=>aiG (by kernel_rfl) (I.abP _ rfl a b K aog))
noncomputable def akY:Env:=R4 (P:=P) aj3 [⟨_,aj4.n⟩] [(0,{od:=[(0, .e1),(1, .e1),(2, .e1),(3, .e1),(8, .bS (.int .i64))],own:=[.rows 11]}),(2,{od:=[(0, .e1),(1, .e1),(2, .e1),(3, .e1),(8, .e1),(9, .bS (.int .i64))],own:=[.rows 11]})] []
theorem akZ:wD P 176 0 [Go.bG.ajV,Go.bG.ajV,Go.bG.aj0] (I.G9.T ⟨103,true⟩):=ajx 0 akY ua Go.Proofs.Tryz.f176 [] [] (aga _) (I.ahB ⟨103,true⟩ fun l a b K aog=>aiH (by kernel_rfl) (I.abK l a b K aog))
noncomputable def ak0:Env:=R4 (P:=P) aj3 [⟨_,aj4.n⟩] [(0,{od:=[(0, .e1),(2, .e1),(3, .e1),(4, .e1),(10, .bS (.int .i64))],own:=[.rows 11]})] [(40,{od:=[(0, .e1),(2, .e1),(3, .e1),(4, .e1),(10, .e1),(11, .bS (.int .i64))],own:=[.rows 11]})]
theorem ak1:wC P 199 [Go.bG.ajV,Go.bG.ajV,Go.bG.ajV,Go.bG.aj0] (I.GQ.T ⟨103,true⟩):=ajw ak0 ua Go.Proofs.Tryz.f199 [] [] (aga _) (I.agr ⟨103,true⟩ fun l lo hi f K aog=>aih (by kernel_rfl) (I.abT l lo hi f K aog))
noncomputable def ak2:Env:=R4 (P:=P) aj3 [⟨_,aj4.n⟩,⟨_,ak1.d⟩] [(0,{od:=[(0, .e1),(3, .e1),(8, .e1),(9, .e1),(10, .e1),(11, .bS (.int .i64))],own:=[.rows 11]}),(2,{od:=[(0, .e1),(3, .e1),(8, .e1),(9, .e1),(12, .bS (.int .i64))],own:=[.rows 11]})] [(100000,{od:=[(0, .e1),(3, .e1),(8, .e1),(9, .e1),(10, .e1)],own:=[.rows 11]})]
theorem ak3:wC P 177 [Go.bG.ajV,Go.bG.ajV,Go.bG.aj0] (I.GR.T ⟨103,true⟩):=ajw ak2 ua Go.Proofs.Tryz.f177 [] [] (aga _) (I.ags ⟨103,true⟩ fun l a b K aog=>aih (by kernel_rfl) (I.abU l a b K aog))
noncomputable def amH:Env:=R4 (P:=P) aj3 [] [] [(4,{od:=[(0, .bS (.int .u64)),(2, .bS (.int .i64))]}),(8,{od:=[(0, .bS (.int .u64)),(2, .bS (.int .i64))]})]
theorem amI:wy P 185 [.bS (.int .u64)] I.xq.T:=ajs amH ua Go.Proofs.Tryz.f185 [.tmp 2] [Go.bG.ajV] (ahm _) (I.afD fun x K aog=>aiG (by kernel_rfl) (I.adW x K aog))
noncomputable def amJ:Env:=R4 (P:=P) aj3 [⟨_,aks.n⟩,⟨_,amI.n⟩] [] []
theorem akg:wy P 144 [.bS (.int .u64)] I.xq.T:=ajs amJ ua Go.Proofs.Tryz.f144 [.tmp 2] [Go.bG.ajV] (ahm _) (I.afD fun x K aog=>aiG (by kernel_rfl) (I.aeR x K aog))
noncomputable def amK:Env:=R4 (P:=P) aj3 [⟨_,akg.n⟩] [] []
theorem aky:wy P 200 [Go.bG.ajV] I.Dk.T:=ajs amK ua Go.Proofs.Tryz.f200 [.tmp 2] [.bS (.int .u64)] (ahm _) (I.ahE fun x K aog=>aiG (by kernel_rfl) (I.acz x K aog))
noncomputable def amL:Env:=R4 (P:=P) aj3 [] [] []
theorem akz:wC P 201 [] I.Dl.T:=ajw amL ua Go.Proofs.Tryz.f201 [.tmp 2] [.bS (.int .u64)] I.aiu (I.ahF fun x K aog=>aih (by kernel_rfl) (I.ace x K aog))
noncomputable def ak4:Env:=R4 (P:=P) aj3 [⟨_,aj4.n⟩,⟨_,aky.n⟩,⟨_,akz.d⟩] [(0,{od:=[(0, .e1),(1, .e1),(8, .e1),(9, .e1),(10, .e1),(11, .bS (.int .i64))],own:=[.rows 11, .cells [.int .u64]]})] [(45,{od:=[(0, .e1),(1, .e1),(8, .e1),(9, .e1),(10, .e1),(11, .e1),(12, .bS (.int .i64))],own:=[.rows 11, .e1]})]
theorem ak5:wC P 178 [Go.bG.ajV,Go.bG.ajV,Go.bG.aj0] (I.B_.T ⟨103,true⟩):=ajw ak4 ua Go.Proofs.Tryz.f178 [] [] (I.agP _) (I.afC ⟨103,true⟩ fun l a b K aog=>aih (by kernel_rfl) (I.abJ l a b K aog))
noncomputable def ak6:Env:=R4 (P:=P) aj3 [⟨_,aj4.n⟩] [] []
theorem ak7:wD P 214 3 [Go.bG.ajY,Go.bG.ajV,Go.bG.ajV,Go.bG.aj0] (I.GU.T ⟨103,true⟩):=ajx 3 ak6 ua Go.Proofs.Tryz.f214 [.tmp 10, .tmp 11] [Go.bG.ajV,Go.bG.ajV] (aga _) (I.agu ⟨103,true⟩ fun l a b s K aog=>aiH (by kernel_rfl) (I.abW l a b s K aog))
noncomputable def ak8:Env:=R4 (P:=P) aj3 [⟨_,aj4.n⟩,⟨_,ak7.n⟩] [] []
theorem akk:wD P 203 4 [Go.bG.ajY,Go.bG.ajV,Go.bG.ajV,Go.bG.ajV,Go.bG.aj0] (I.Ha.T ⟨103,true⟩):=ajx 4 ak8 ua Go.Proofs.Tryz.f203 [.tmp 12] [Go.bG.ajV] (aga _) (I.ahD ⟨103,true⟩ fun l a b e s K aog=>aiH (by kernel_rfl) (I.abX l a b e s K aog))
noncomputable def ak9:Env:=R4 (P:=P) aj3 [⟨_,aj4.n⟩,⟨_,akk.n⟩] [] []
theorem ak_:wD P 202 2 [Go.bG.ajY,Go.bG.ajV,Go.bG.aj0] (I.F3.T ⟨103,true⟩):=ajx 2 ak9 ua Go.Proofs.Tryz.f202 [.tmp 8] [Go.bG.ajV] (aga _) (I.aeN ⟨103,true⟩ fun l a s K aog=>aiH (by kernel_rfl) (I.abI l a s K aog))
noncomputable def ala:Env:=R4 (P:=P) aj3 [⟨_,aj4.n⟩,⟨_,ak_.n⟩,⟨_,akk.n⟩] [] [(34,{od:=[(11, .e1),(13, .bS (.int .i64))],own:=[.cells [.int .i64]]}),(36,{od:=[(0, .e1),(3, .e1),(11, .e1),(12, .bS (.int .i64)),(13, .bS (.int .i64)),(14, .bS (.int .i64))],own:=[.cells [.int .i64]]})]
theorem alb:wz P 179 [Go.bG.ajY,Go.bG.ajV,Go.bG.ajV,Go.bG.aj0] (I.Gx.T ⟨103,true⟩):=ajt ala ua Go.Proofs.Tryz.f179 [.tmp 8, .tmp 9] (ahm _) (I.afB ⟨103,true⟩ fun l a b K aog=>aiG (by kernel_rfl) (I.abM l a b K aog))
noncomputable def alc:Env:=R4 (P:=P) aj3 [⟨_,aj4.n⟩] [(0,{od:=[(0, .e1),(8, .bS (.int .i64)),(9, .bS (.int .i64))],own:=[.rows 11]})] []
theorem ald:wC P 180 [Go.bG.ajV,Go.bG.ajV,Go.bG.aj0] (I.G_.T ⟨103,true⟩):=ajw alc ua Go.Proofs.Tryz.f180 [] [] (aga _) (I.ahC ⟨103,true⟩ fun l a b K aog=>aih (by kernel_rfl) (I.abL l a b K aog))
noncomputable def ale:Env:=R4 (P:=P) aj3 [⟨_,aj4.n⟩] [(0,{od:=[(0, .e1),(1, .e1),(2, .e1),(3, .e1),(9, .bS (.int .i64)),(10, .bS (.int .i64))],own:=[.rows 11]}),(2,{od:=[(0, .e1),(1, .e1),(2, .e1),(3, .e1),(9, .bS (.int .i64)),(10, .e1)],own:=[.rows 11]}),(4,{od:=[(0, .e1),(1, .e1),(2, .e1),(3, .e1),(9, .e1),(10, .e1),(11, .bS (.int .i64))],own:=[.rows 11]}),(6,{od:=[(0, .e1),(1, .e1),(2, .e1),(3, .e1),(9, .e1),(10, .e1),(12, .bS (.int .i64))],own:=[.rows 11]})] [(100000,{od:=[(0, .e1)],own:=[.rows 11]}),(100002,{od:=[(0, .e1),(1, .e1),(2, .e1),(3, .e1),(9, .bS (.int .i64)),(10, .e1)],own:=[.rows 11]}),(65,{od:=[(0, .e1),(1, .e1),(2, .e1),(3, .e1),(9, .e1),(10, .e1)],own:=[.rows 11]})]
theorem alf:wC P 181 [Go.bG.ajV,Go.bG.ajV,Go.bG.aj0] (I.Fw.T ⟨103,true⟩):=ajw ale ua Go.Proofs.Tryz.f181 [.tmp 8] [Go.bG.ajX] (aga _) (I.aeg ⟨103,true⟩ fun l a b K aog=>aih (by kernel_rfl) (I.abG l a b K aog))
noncomputable def alg:Env:=R4 (P:=P) aj3 [⟨_,aj4.n⟩] [(0,{od:=[(0, .e1),(1, .e1),(4, .e1),(11, .bS (.int .i64)),(12, .bS (.int .i64))],own:=[.rows 11]}),(2,{od:=[(0, .e1),(1, .e1),(4, .e1),(11, .bS (.int .i64)),(12, .e1)],own:=[.rows 11]}),(4,{od:=[(0, .e1),(1, .e1),(4, .e1),(11, .e1),(12, .bS (.int .i64))],own:=[.rows 11]})] [(100000,{od:=[(0, .e1),(11, .bS (.int .i64))],own:=[.rows 11]}),(100002,{od:=[(0, .e1),(1, .e1),(4, .e1),(11, .bS (.int .i64)),(12, .e1)],own:=[.rows 11]}),(100004,{od:=[(0, .e1),(1, .e1),(4, .e1),(11, .e1),(12, .bS (.int .i64))],own:=[.rows 11]})]
theorem alh:wC P 182 [Go.bG.ajV,Go.bG.ajV,Go.bG.ajV,Go.bG.aj0] (I.F2.T ⟨103,true⟩):=ajw alg ua Go.Proofs.Tryz.f182 [.tmp 10] [Go.bG.ajV] (aga _) (I.aeM ⟨103,true⟩ fun l a b p K aog=>aih (by kernel_rfl) (I.abH l a b p K aog))
noncomputable def ali:Env:=R4 (P:=P) aj3 [⟨_,aj4.n⟩] [(0,{od:=[(0, .e1),(1, .e1),(4, .e1),(12, .bS (.int .i64)),(13, .e1)],own:=[.rows 11]}),(2,{od:=[(0, .e1),(1, .e1),(4, .e1),(12, .e1),(13, .bS (.int .i64))],own:=[.rows 11]}),(4,{od:=[(0, .e1),(1, .e1),(4, .e1),(12, .bS (.int .i64)),(13, .bS (.int .i64))],own:=[.rows 11]}),(6,{od:=[(0, .e1),(1, .e1),(4, .e1),(12, .bS (.int .i64)),(13, .e1)],own:=[.rows 11]}),(8,{od:=[(0, .e1),(1, .e1),(4, .e1),(12, .e1),(13, .bS (.int .i64))],own:=[.rows 11]})] [(100000,{od:=[(0, .e1),(1, .e1),(4, .e1),(12, .bS (.int .i64)),(13, .e1)],own:=[.rows 11]}),(100002,{od:=[(0, .e1),(1, .e1),(4, .e1),(12, .e1),(13, .bS (.int .i64))],own:=[.rows 11]}),(100004,{od:=[(0, .e1),(1, .e1),(13, .bS (.int .i64))],own:=[.rows 11]}),(100006,{od:=[(0, .e1),(1, .e1),(4, .e1),(12, .bS (.int .i64)),(13, .e1)],own:=[.rows 11]}),(100008,{od:=[(0, .e1),(1, .e1),(4, .e1),(12, .e1),(13, .bS (.int .i64))],own:=[.rows 11]})]
theorem alj:wC P 183 [Go.bG.ajV,Go.bG.ajV,Go.bG.ajV,Go.bG.aj0] (I.GS.T ⟨103,true⟩):=ajw ali ua Go.Proofs.Tryz.f183 [.tmp 10, .tmp 11] [Go.bG.ajV,Go.bG.ajX] (aga _) (I.agt ⟨103,true⟩ fun l a b p K aog=>aih (by kernel_rfl) (I.abS l a b p K aog))
noncomputable def alk (n:Nat) (ao:wD P 143 0 [Go.bG.ajV,Go.bG.ajV,Go.bG.ajV,Go.bG.aj0] (I.qv.T ⟨103,true⟩ n)):Env:=R4 (P:=P) aj3 [⟨_,aj4.n⟩,⟨_,ao.d⟩,⟨_,akZ.n⟩,⟨_,ak3.n⟩,⟨_,ak5.d⟩,⟨_,alb.n⟩,⟨_,ald.n⟩,⟨_,alf.n⟩,⟨_,alh.n⟩,⟨_,alj.n⟩] [(0,{od:=[(0, .e1),(1, .bS (.int .i64)),(2, .bS (.int .i64)),(3, .bS (.int .i64)),(4, .e1),(10, .bS (.bool)),(11, .bS (.bool))],own:=[.rows 11]})] [(39,{od:=[(0, .e1),(1, .e1),(2, .e1),(3, .bS (.int .i64)),(4, .e1),(10, .e1),(11, .e1),(12, .e1)],own:=[.rows 11]}),(56,{od:=[(0, .e1),(1, .e1),(2, .e1),(3, .e1),(4, .e1),(10, .e1),(11, .e1),(12, .e1),(13, .bS (.int .i64)),(14, .bS (.int .i64))],own:=[.rows 11]}),(75,{od:=[(0, .e1),(1, .e1),(2, .e1),(3, .e1),(4, .e1),(10, .e1),(11, .e1),(12, .e1),(13, .e1)],own:=[.rows 11]})]
theorem alm (n:Nat)(ao:wD P 143 0 [Go.bG.ajV,Go.bG.ajV,Go.bG.ajV,Go.bG.aj0] (I.qv.T ⟨103,true⟩ n)):wD P 143 0 [Go.bG.ajV,Go.bG.ajV,Go.bG.ajV,Go.bG.aj0] (I.qv.T ⟨103,true⟩ (n+1)):=ajx 0 (alk n ao) ua Go.Proofs.Tryz.f143 [] [] (I.ait _ _) (I.Xq ⟨103,true⟩ (n+1) fun l a b m K aog=>aiH (by kernel_rfl) (I.abV n l a b m K aog))
theorem akl:∀n,wD P 143 0 [Go.bG.ajV,Go.bG.ajV,Go.bG.ajV,Go.bG.aj0] (I.qv.T ⟨103,true⟩ n)
 |0=>⟨I.agT _ ⟨_,Go.Proofs.Tryz.func143,rfl,by kernel_rfl⟩,I.ait _ _⟩
 |n+1=>alm n (akl n)
theorem akW:wD P 143 0 [Go.bG.ajV,Go.bG.ajV,Go.bG.ajV,Go.bG.aj0] (I.vc.T ⟨103,true⟩):=⟨I.agS (fun n=>(akl n).s) (I.ahJ _),I.ahH _⟩
noncomputable def aln:Env:=R4 (P:=P) aj3 [⟨_,aj4.n⟩,⟨_,akW.d⟩,⟨_,akg.n⟩] [] []
theorem alo:wD P 102 0 [Go.bG.aj0] (I.CM.T ⟨103,true⟩):=ajx 0 aln ua Go.Proofs.Tryz.f102 [] [] (I.ahI _) (I.agv ⟨103,true⟩ fun l K aog=>aiH (by kernel_rfl) (I.abO l K aog))
noncomputable def anE:Env:=R4 (P:=P) aj3 [⟨_,akf.n⟩,⟨_,akc.n⟩,⟨_,alo.d⟩] [(0,{od:=[(3, .e1),(4, .e1),(13, .e1),(14, .e1),(15, .bS (.int .i64))],own:=[.map 8 11, .rows 8],conv:=[(4, .srows 8)]}),(2,{od:=[(3, .e1),(9, .e1),(44, .e1),(45, .e1),(46, .bS (.int .i64))],own:=[.map 8 11, .rows 8, .rows 11],conv:=[(9, .srows 11)]})] [(27,{od:=[(3, .e1),(4, .e1),(6, .e1),(13, .e1),(14, .e1),(15, .e1)],own:=[.map 8 11, .rows 8, .rows 11]})]
theorem aj9:wy P 54 [Go.bG.ajY] I.sK.T:=ajs anE ua Go.Proofs.Tryz.f54 [.tmp 2] [Go.bG.ajY] (ahm _) (I.aei fun l K aog=>aiG (by kernel_rfl) (I.ach l K aog))
noncomputable def anF:Env:=R4 (P:=P) aj3 [] [(0,{od:=[(1, .e1),(5, .bS (.int .i64)),(8, .e1),(9, .e1),(10, .bS (.int .i64))]})] []
theorem akO:wy P 65 [Go.bG.ajY,Go.bG.ajV] I.CT.T:=ajs anF ua Go.Proofs.Tryz.f65 [.tmp 4] [Go.bG.ajV] (ahm _) (I.agD fun p v K aog=>aiG (by kernel_rfl) (I.ac1 p v K aog))
noncomputable def anG:Env:=R4 (P:=P) aj3 [⟨_,akO.n⟩] [(0,{od:=[(0, .e1),(1, .e1),(2, .e1),(8, .bS (.int .i64))]})] []
theorem anH:wy P 55 [Go.bG.ajY,Go.bG.ajV,Go.bG.ajY] I.CZ.T:=ajs anG ua Go.Proofs.Tryz.f55 [.tmp 6] [Go.bG.ajX] (ahm _) (I.agL fun p n q K aog=>aiG (by kernel_rfl) (I.acb p n q K aog))
noncomputable def amM:Env:=R4 (P:=P) aj3 [] [(0,{od:=[(2, .e1),(3, .e1),(4, .e1),(6, .bS (.int .i64))],own:=[.rows 8, .rows 8, .rows 8]})] []
theorem amN:wy P 104 [.arr 8 (.bS (.int .i64)) [.int .i64, .int .i64, .int .i64, .int .i64, .int .i64, .int .i64, .int .i64, .int .i64], .arr 8 (.bS (.int .i64)) [.int .i64, .int .i64, .int .i64, .int .i64, .int .i64, .int .i64, .int .i64, .int .i64]] I.Cb.T:=ajs amM ua Go.Proofs.Tryz.f104 [.cell 4 36] [.arr 8 (.bS (.int .i64)) [.int .i64, .int .i64, .int .i64, .int .i64, .int .i64, .int .i64, .int .i64, .int .i64]] (ahm _) (I.afF fun a b K aog=>aiG (by kernel_rfl) (I.ac6 a b K aog))
noncomputable def amO:Env:=R4 (P:=P) aj3 [⟨_,akb.n⟩,⟨_,aj_.n⟩,⟨_,aj7.n⟩,⟨_,akw.n⟩] [] []
theorem akA:wy P 105 [Go.bG.aj1,Go.bG.aj1] I.xP.T:=ajs amO ua Go.Proofs.Tryz.f105 [.cell 4 39] [Go.bG.aj1] (ahm _) (I.ag0 fun s a b t c d K aog=>aiG (by kernel_rfl) (I.ahX s a b t c d K aog))
noncomputable def amP:Env:=R4 (P:=P) aj3 [⟨_,akx.n⟩] [] []
theorem aj5:wz P 149 [.struct [] [.int .i64], .struct [] [.int .i64, .int .i64, .int .i64, .int .i64, .int .i64, .int .i64, .int .i64, .int .i64, .bool, .sints .u32, .sints .u32], .struct [] [.int .i64, .int .i64, .int .i64, .int .i64, .int .i64, .int .i64, .int .i64, .int .i64, .bool, .sints .u32, .sints .u32]] (I.pf.T ⟨149,false⟩):=ajt amP ua Go.Proofs.Tryz.f149 [.tmp 6] (ahm _) (I.agR 149 fun a b K aog=>aiG (by kernel_rfl) (I.ab0 _ rfl a b K aog))
noncomputable def alp:Env:=R4 (P:=P) aj3 [⟨_,aj5.n⟩] [(0,{od:=[(0, .e1),(1, .e1),(2, .e1),(3, .e1),(8, .bS (.int .i64))],own:=[.rows 11]}),(2,{od:=[(0, .e1),(1, .e1),(2, .e1),(3, .e1),(8, .e1),(9, .bS (.int .i64))],own:=[.rows 11]})] []
theorem alq:wD P 176 0 [Go.bG.ajV,Go.bG.ajV,Go.bG.aj0] (I.G9.T ⟨149,false⟩):=ajx 0 alp ua Go.Proofs.Tryz.f176 [] [] (aga _) (I.ahB ⟨149,false⟩ fun l a b K aog=>aiH (by kernel_rfl) (I.abK l a b K aog))
noncomputable def alr:Env:=R4 (P:=P) aj3 [⟨_,aj5.n⟩] [(0,{od:=[(0, .e1),(2, .e1),(3, .e1),(4, .e1),(10, .bS (.int .i64))],own:=[.rows 11]})] [(40,{od:=[(0, .e1),(2, .e1),(3, .e1),(4, .e1),(10, .e1),(11, .bS (.int .i64))],own:=[.rows 11]})]
theorem als:wC P 199 [Go.bG.ajV,Go.bG.ajV,Go.bG.ajV,Go.bG.aj0] (I.GQ.T ⟨149,false⟩):=ajw alr ua Go.Proofs.Tryz.f199 [] [] (aga _) (I.agr ⟨149,false⟩ fun l lo hi f K aog=>aih (by kernel_rfl) (I.abT l lo hi f K aog))
noncomputable def alu:Env:=R4 (P:=P) aj3 [⟨_,aj5.n⟩,⟨_,als.d⟩] [(0,{od:=[(0, .e1),(3, .e1),(8, .e1),(9, .e1),(10, .e1),(11, .bS (.int .i64))],own:=[.rows 11]}),(2,{od:=[(0, .e1),(3, .e1),(8, .e1),(9, .e1),(12, .bS (.int .i64))],own:=[.rows 11]})] [(100000,{od:=[(0, .e1),(3, .e1),(8, .e1),(9, .e1),(10, .e1)],own:=[.rows 11]})]
theorem alv:wC P 177 [Go.bG.ajV,Go.bG.ajV,Go.bG.aj0] (I.GR.T ⟨149,false⟩):=ajw alu ua Go.Proofs.Tryz.f177 [] [] (aga _) (I.ags ⟨149,false⟩ fun l a b K aog=>aih (by kernel_rfl) (I.abU l a b K aog))
noncomputable def alw:Env:=R4 (P:=P) aj3 [⟨_,aj5.n⟩,⟨_,aky.n⟩,⟨_,akz.d⟩] [(0,{od:=[(0, .e1),(1, .e1),(8, .e1),(9, .e1),(10, .e1),(11, .bS (.int .i64))],own:=[.rows 11, .cells [.int .u64]]})] [(45,{od:=[(0, .e1),(1, .e1),(8, .e1),(9, .e1),(10, .e1),(11, .e1),(12, .bS (.int .i64))],own:=[.rows 11, .e1]})]
theorem alx:wC P 178 [Go.bG.ajV,Go.bG.ajV,Go.bG.aj0] (I.B_.T ⟨149,false⟩):=ajw alw ua Go.Proofs.Tryz.f178 [] [] (I.agP _) (I.afC ⟨149,false⟩ fun l a b K aog=>aih (by kernel_rfl) (I.abJ l a b K aog))
noncomputable def aly:Env:=R4 (P:=P) aj3 [⟨_,aj5.n⟩] [] []
theorem alz:wD P 214 3 [Go.bG.ajY,Go.bG.ajV,Go.bG.ajV,Go.bG.aj0] (I.GU.T ⟨149,false⟩):=ajx 3 aly ua Go.Proofs.Tryz.f214 [.tmp 10, .tmp 11] [Go.bG.ajV,Go.bG.ajV] (aga _) (I.agu ⟨149,false⟩ fun l a b s K aog=>aiH (by kernel_rfl) (I.abW l a b s K aog))
noncomputable def alA:Env:=R4 (P:=P) aj3 [⟨_,aj5.n⟩,⟨_,alz.n⟩] [] []
theorem akm:wD P 203 4 [Go.bG.ajY,Go.bG.ajV,Go.bG.ajV,Go.bG.ajV,Go.bG.aj0] (I.Ha.T ⟨149,false⟩):=ajx 4 alA ua Go.Proofs.Tryz.f203 [.tmp 12] [Go.bG.ajV] (aga _) (I.ahD ⟨149,false⟩ fun l a b e s K aog=>aiH (by kernel_rfl) (I.abX l a b e s K aog))
noncomputable def alB:Env:=R4 (P:=P) aj3 [⟨_,aj5.n⟩,⟨_,akm.n⟩] [] []
theorem alC:wD P 202 2 [Go.bG.ajY,Go.bG.ajV,Go.bG.aj0] (I.F3.T ⟨149,false⟩):=ajx 2 alB ua Go.Proofs.Tryz.f202 [.tmp 8] [Go.bG.ajV] (aga _) (I.aeN ⟨149,false⟩ fun l a s K aog=>aiH (by kernel_rfl) (I.abI l a s K aog))
noncomputable def alD:Env:=R4 (P:=P) aj3 [⟨_,aj5.n⟩,⟨_,alC.n⟩,⟨_,akm.n⟩] [] [(34,{od:=[(11, .e1),(13, .bS (.int .i64))],own:=[.cells [.int .i64]]}),(36,{od:=[(0, .e1),(3, .e1),(11, .e1),(12, .bS (.int .i64)),(13, .bS (.int .i64)),(14, .bS (.int .i64))],own:=[.cells [.int .i64]]})]
theorem alE:wz P 179 [Go.bG.ajY,Go.bG.ajV,Go.bG.ajV,Go.bG.aj0] (I.Gx.T ⟨149,false⟩):=ajt alD ua Go.Proofs.Tryz.f179 [.tmp 8, .tmp 9] (ahm _) (I.afB ⟨149,false⟩ fun l a b K aog=>aiG (by kernel_rfl) (I.abM l a b K aog))
noncomputable def alF:Env:=R4 (P:=P) aj3 [⟨_,aj5.n⟩] [(0,{od:=[(0, .e1),(8, .bS (.int .i64)),(9, .bS (.int .i64))],own:=[.rows 11]})] []
theorem alG:wC P 180 [Go.bG.ajV,Go.bG.ajV,Go.bG.aj0] (I.G_.T ⟨149,false⟩):=ajw alF ua Go.Proofs.Tryz.f180 [] [] (aga _) (I.ahC ⟨149,false⟩ fun l a b K aog=>aih (by kernel_rfl) (I.abL l a b K aog))
noncomputable def alH:Env:=R4 (P:=P) aj3 [⟨_,aj5.n⟩] [(0,{od:=[(0, .e1),(1, .e1),(2, .e1),(3, .e1),(9, .bS (.int .i64)),(10, .bS (.int .i64))],own:=[.rows 11]}),(2,{od:=[(0, .e1),(1, .e1),(2, .e1),(3, .e1),(9, .bS (.int .i64)),(10, .e1)],own:=[.rows 11]}),(4,{od:=[(0, .e1),(1, .e1),(2, .e1),(3, .e1),(9, .e1),(10, .e1),(11, .bS (.int .i64))],own:=[.rows 11]}),(6,{od:=[(0, .e1),(1, .e1),(2, .e1),(3, .e1),(9, .e1),(10, .e1),(12, .bS (.int .i64))],own:=[.rows 11]})] [(100000,{od:=[(0, .e1)],own:=[.rows 11]}),(100002,{od:=[(0, .e1),(1, .e1),(2, .e1),(3, .e1),(9, .bS (.int .i64)),(10, .e1)],own:=[.rows 11]}),(65,{od:=[(0, .e1),(1, .e1),(2, .e1),(3, .e1),(9, .e1),(10, .e1)],own:=[.rows 11]})]
theorem alI:wC P 181 [Go.bG.ajV,Go.bG.ajV,Go.bG.aj0] (I.Fw.T ⟨149,false⟩):=ajw alH ua Go.Proofs.Tryz.f181 [.tmp 8] [Go.bG.ajX] (aga _) (I.aeg ⟨149,false⟩ fun l a b K aog=>aih (by kernel_rfl) (I.abG l a b K aog))
noncomputable def alJ:Env:=R4 (P:=P) aj3 [⟨_,aj5.n⟩] [(0,{od:=[(0, .e1),(1, .e1),(4, .e1),(11, .bS (.int .i64)),(12, .bS (.int .i64))],own:=[.rows 11]}),(2,{od:=[(0, .e1),(1, .e1),(4, .e1),(11, .bS (.int .i64)),(12, .e1)],own:=[.rows 11]}),(4,{od:=[(0, .e1),(1, .e1),(4, .e1),(11, .e1),(12, .bS (.int .i64))],own:=[.rows 11]})] [(100000,{od:=[(0, .e1),(11, .bS (.int .i64))],own:=[.rows 11]}),(100002,{od:=[(0, .e1),(1, .e1),(4, .e1),(11, .bS (.int .i64)),(12, .e1)],own:=[.rows 11]}),(100004,{od:=[(0, .e1),(1, .e1),(4, .e1),(11, .e1),(12, .bS (.int .i64))],own:=[.rows 11]})]
theorem alK:wC P 182 [Go.bG.ajV,Go.bG.ajV,Go.bG.ajV,Go.bG.aj0] (I.F2.T ⟨149,false⟩):=ajw alJ ua Go.Proofs.Tryz.f182 [.tmp 10] [Go.bG.ajV] (aga _) (I.aeM ⟨149,false⟩ fun l a b p K aog=>aih (by kernel_rfl) (I.abH l a b p K aog))
noncomputable def alL:Env:=R4 (P:=P) aj3 [⟨_,aj5.n⟩] [(0,{od:=[(0, .e1),(1, .e1),(4, .e1),(12, .bS (.int .i64)),(13, .e1)],own:=[.rows 11]}),(2,{od:=[(0, .e1),(1, .e1),(4, .e1),(12, .e1),(13, .bS (.int .i64))],own:=[.rows 11]}),(4,{od:=[(0, .e1),(1, .e1),(4, .e1),(12, .bS (.int .i64)),(13, .bS (.int .i64))],own:=[.rows 11]}),(6,{od:=[(0, .e1),(1, .e1),(4, .e1),(12, .bS (.int .i64)),(13, .e1)],own:=[.rows 11]}),(8,{od:=[(0, .e1),(1, .e1),(4, .e1),(12, .e1),(13, .bS (.int .i64))],own:=[.rows 11]})] [(100000,{od:=[(0, .e1),(1, .e1),(4, .e1),(12, .bS (.int .i64)),(13, .e1)],own:=[.rows 11]}),(100002,{od:=[(0, .e1),(1, .e1),(4, .e1),(12, .e1),(13, .bS (.int .i64))],own:=[.rows 11]}),(100004,{od:=[(0, .e1),(1, .e1),(13, .bS (.int .i64))],own:=[.rows 11]}),(100006,{od:=[(0, .e1),(1, .e1),(4, .e1),(12, .bS (.int .i64)),(13, .e1)],own:=[.rows 11]}),(100008,{od:=[(0, .e1),(1, .e1),(4, .e1),(12, .e1),(13, .bS (.int .i64))],own:=[.rows 11]})]
theorem alM:wC P 183 [Go.bG.ajV,Go.bG.ajV,Go.bG.ajV,Go.bG.aj0] (I.GS.T ⟨149,false⟩):=ajw alL ua Go.Proofs.Tryz.f183 [.tmp 10, .tmp 11] [Go.bG.ajV,Go.bG.ajX] (aga _) (I.agt ⟨149,false⟩ fun l a b p K aog=>aih (by kernel_rfl) (I.abS l a b p K aog))
noncomputable def alN (n:Nat) (ao:wD P 143 0 [Go.bG.ajV,Go.bG.ajV,Go.bG.ajV,Go.bG.aj0] (I.qv.T ⟨149,false⟩ n)):Env:=R4 (P:=P) aj3 [⟨_,ao.d⟩,⟨_,aj5.n⟩,⟨_,alq.n⟩,⟨_,alv.n⟩,⟨_,alx.d⟩,⟨_,alE.n⟩,⟨_,alG.n⟩,⟨_,alI.n⟩,⟨_,alK.n⟩,⟨_,alM.n⟩] [(0,{od:=[(0, .e1),(1, .bS (.int .i64)),(2, .bS (.int .i64)),(3, .bS (.int .i64)),(4, .e1),(10, .bS (.bool)),(11, .bS (.bool))],own:=[.rows 11]})] [(39,{od:=[(0, .e1),(1, .e1),(2, .e1),(3, .bS (.int .i64)),(4, .e1),(10, .e1),(11, .e1),(12, .e1)],own:=[.rows 11]}),(56,{od:=[(0, .e1),(1, .e1),(2, .e1),(3, .e1),(4, .e1),(10, .e1),(11, .e1),(12, .e1),(13, .bS (.int .i64)),(14, .bS (.int .i64))],own:=[.rows 11]}),(75,{od:=[(0, .e1),(1, .e1),(2, .e1),(3, .e1),(4, .e1),(10, .e1),(11, .e1),(12, .e1),(13, .e1)],own:=[.rows 11]})]
theorem alO (n:Nat)(ao:wD P 143 0 [Go.bG.ajV,Go.bG.ajV,Go.bG.ajV,Go.bG.aj0] (I.qv.T ⟨149,false⟩ n)):wD P 143 0 [Go.bG.ajV,Go.bG.ajV,Go.bG.ajV,Go.bG.aj0] (I.qv.T ⟨149,false⟩ (n+1)):=ajx 0 (alN n ao) ua Go.Proofs.Tryz.f143 [] [] (I.ait _ _) (I.Xq ⟨149,false⟩ (n+1) fun l a b m K aog=>aiH (by kernel_rfl) (I.abV n l a b m K aog))
theorem akn:∀n,wD P 143 0 [Go.bG.ajV,Go.bG.ajV,Go.bG.ajV,Go.bG.aj0] (I.qv.T ⟨149,false⟩ n)
 |0=>⟨I.agT _ ⟨_,Go.Proofs.Tryz.func143,rfl,by kernel_rfl⟩,I.ait _ _⟩
 |n+1=>alO n (akn n)
theorem akX:wD P 143 0 [Go.bG.ajV,Go.bG.ajV,Go.bG.ajV,Go.bG.aj0] (I.vc.T ⟨149,false⟩):=⟨I.agS (fun n=>(akn n).s) (I.ahJ _),I.ahH _⟩
noncomputable def alP:Env:=R4 (P:=P) aj3 [⟨_,akX.d⟩,⟨_,akg.n⟩,⟨_,aj5.n⟩] [] []
theorem alQ:wD P 102 0 [Go.bG.aj0] (I.CM.T ⟨149,false⟩):=ajx 0 alP ua Go.Proofs.Tryz.f102 [] [] (I.ahI _) (I.agv ⟨149,false⟩ fun l K aog=>aiH (by kernel_rfl) (I.abO l K aog))
noncomputable def amQ:Env:=R4 (P:=P) aj3 [⟨_,aj_.n⟩,⟨_,aj7.n⟩] [] []
theorem amR:wy P 146 [Go.bG.aj1] I.xj.T:=ajs amQ ua Go.Proofs.Tryz.f146 [.cell 2 39] [Go.bG.aj1] (ahm _) (I.aeW fun s a b K aog=>aiG (by kernel_rfl) (I.ag6 s a b K aog))
noncomputable def amS:Env:=R4 (P:=P) aj3 [⟨_,akc.n⟩] [] []
theorem akh:wy P 148 [.struct [] [.int .i64, .int .i64, .int .i64, .int .i64, .int .i64, .int .i64, .int .i64, .int .i64, .bool, .sints .u32, .sints .u32]] I.Cd.T:=ajs amS ua Go.Proofs.Tryz.f148 [.tmp 2] [Go.bG.ajX] (ahm _) (I.afG fun r K aog=>aiG (by kernel_rfl) (I.acx r K aog))
noncomputable def amT:Env:=R4 (P:=P) aj3 [⟨_,akh.n⟩] [(0,{od:=[(0, .e1),(1, .e1),(7, .e1),(8, .bS (.int .i64))]})] []
theorem amU:wz P 187 [Go.bG.ajY,Go.bG.aj0] (I.xh.T 148):=ajt amT ua Go.Proofs.Tryz.f187 [.tmp 4] (ahm _) (I.aeO 148 fun l K aog=>aiG (by kernel_rfl) (I.abQ 148 l K aog))
noncomputable def amV:Env:=R4 (P:=P) ((26,{ty:= .bS (.srows 11),elem:=41,bytes:=120,hC:=[.int .i64, .int .i64, .int .i64, .int .i64, .int .i64, .int .i64, .int .i64, .int .i64, .bool, .sints .u32, .sints .u32],lit:=true,cut:=true})::aj3) [⟨_,akh.n⟩,⟨_,amU.n⟩] [(0,{od:=[(0, .e1),(1, .e1),(5, .bS (.int .i64)),(6, .bS (.int .i64))],own:=[.rows 11]})] []
theorem amW:wE P 147 [Go.bG.aj0] (I.xG.T 148):=ajy amV (aiF (by kernel_rfl) (by kernel_rfl) wq) Go.Proofs.Tryz.f147 4 (ahl _) (I.agx 148 fun l K aog=>aiG (by kernel_rfl) (I.abN 148 l K aog))
noncomputable def amX:Env:=R4 (P:=P) aj3 [⟨_,akf.n⟩,⟨_,alQ.d⟩,⟨_,amR.n⟩,⟨_,amW.n⟩,⟨_,akh.n⟩] [(0,{od:=[(3, .e1),(4, .e1),(13, .e1),(14, .e1),(15, .bS (.int .i64))],own:=[.map 8 9, .rows 11]})] []
theorem aki:wy P 106 [Go.bG.ajY] I.sK.T:=ajs amX ua Go.Proofs.Tryz.f106 [.tmp 2] [Go.bG.ajY] (ahm _) (I.aei fun l K aog=>aiG (by kernel_rfl) (I.acP l K aog))
noncomputable def anI:Env:=R4 (P:=P) aj3 [⟨_,amN.n⟩,⟨_,akA.n⟩,⟨_,aki.n⟩] [(0,{od:=[(1, .e1),(5, .e1),(16, .e1),(17, .e1),(18, .bS (.int .i64))],own:=[.rows 11]}),(2,{od:=[(1, .e1),(5, .e1),(7, .e1),(16, .e1),(17, .e1),(18, .e1),(22, .e1),(23, .e1),(24, .bS (.int .i64))],own:=[.rows 11, .rows 11]})] []
theorem anJ:wy P 56 [Go.bG.ajY,Go.bG.ajY] I.CS.T:=ajs anI ua Go.Proofs.Tryz.f56 [.tmp 4] [Go.bG.ajY] (ahm _) (I.agC fun p q K aog=>aiG (by kernel_rfl) (I.ady p q K aog))
noncomputable def anK:Env:=R4 (P:=P) aj3 [⟨_,aj8.n⟩,⟨_,aj9.n⟩,⟨_,anH.n⟩,⟨_,anJ.n⟩] [] []
theorem akP:wy P 13 [Go.bG.ajY,Go.bG.ajY] I.C0.T:=ajs anK ua Go.Proofs.Tryz.f13 [.tmp 4, .tmp 5] [Go.bG.ajY,Go.bG.ajV] (ahm _) (I.agM fun p q K aog=>aiG (by kernel_rfl) (I.acT p q K aog))
noncomputable def arL:Env:=R4 (P:=P) aj3 [] [(0,{od:=[(0, .e1),(1, .e1),(5, .bS (.int .i64))]})] []
theorem arM:wy P 80 [Go.bG.ajW,Go.bG.ajW] I.CI.T:=ajs arL ua Go.Proofs.Tryz.f80 [.tmp 4] [Go.bG.ajX] (ahm _) (I.agh fun a b K aog=>aiG (by kernel_rfl) (I.aeL a b K aog))
noncomputable def arN:Env:=R4 (P:=P) aj3 [⟨_,arM.n⟩] [] []
theorem arO:wy P 39 [Go.bG.aj1,Go.bG.aj1] I.Cq.T:=ajs arN ua Go.Proofs.Tryz.f39 [.tmp 4] [Go.bG.ajX] (ahm _) (I.afX fun s a b t c d K aog=>aiG (by kernel_rfl) (I.ahc s a b t c d K aog))
noncomputable def arP:Env:=R4 (P:=P) aj3 [⟨_,arO.n⟩] [(0,{od:=[(0, .e1),(1, .e1),(5, .bS (.int .i64))]})] []
theorem aqk:wy P 14 [Go.bG.ajY,Go.bG.ajY] I.Ci.T:=ajs arP ua Go.Proofs.Tryz.f14 [.tmp 4] [Go.bG.ajX] (ahm _) (I.afM fun p q K aog=>aiG (by kernel_rfl) (I.acd p q K aog))
noncomputable def amY:Env:=R4 (P:=P) ((26,{ty:= .bS (.srows 11),elem:=41,bytes:=120,hC:=[.int .i64, .int .i64, .int .i64, .int .i64, .int .i64, .int .i64, .int .i64, .int .i64, .bool, .sints .u32, .sints .u32]})::aj3) [] [] []
theorem akB:wA P 107 [Go.bG.ajY] I.Cc.T:=aju amY (aiF (by kernel_rfl) (by kernel_rfl) wq) Go.Proofs.Tryz.f107 2 Go.bG.ajY (ahj _) (I.afH fun l K aog=>aiG (by kernel_rfl) (I.abY l K aog))
noncomputable def anN:Env:=R4 (P:=P) aj3 [⟨_,aki.n⟩,⟨_,akB.n⟩] [] []
theorem akQ:wy P 58 [Go.bG.ajY,Go.bG.ajY] I.CP.T:=ajs anN ua Go.Proofs.Tryz.f58 [.tmp 4] [Go.bG.ajY] (ahm _) (I.agz fun p q K aog=>aiG (by kernel_rfl) (I.adu p q K aog))
noncomputable def amZ:Env:=R4 (P:=P) aj3 [] [(0,{od:=[(0, .e1),(3, .bS (.int .i64)),(4, .bS (.int .i64))]})] [(7,{od:=[(0, .e1)]})]
theorem am0:wy P 163 [.bS (.sints .i64)] I.Dn.T:=ajs amZ ua Go.Proofs.Tryz.f163 [.tmp 2] [Go.bG.ajV] (ahm _) (I.ahG fun a K aog=>aiG (by kernel_rfl) (I.acw a K aog))
noncomputable def am1:Env:=R4 (P:=P) aj3 [⟨_,am0.n⟩] [(0,{od:=[(3, .bS (.int .i64)),(6, .e1),(7, .e1),(8, .bS (.int .i64))]})] []
theorem am2:wy P 128 [Go.bG.ajY] I.CU.T:=ajs am1 ua Go.Proofs.Tryz.f128 [.tmp 2] [Go.bG.ajV] (ahm _) (I.agE fun p K aog=>aiG (by kernel_rfl) (I.adv p K aog))
noncomputable def anO:Env:=R4 (P:=P) aj3 [⟨_,am2.n⟩] [] []
theorem akR:wy P 78 [Go.bG.ajY] I.AY.T:=ajs anO ua Go.Proofs.Tryz.f78 [.tmp 2, .tmp 3] [Go.bG.ajY,Go.bG.ajV] (ahm _) (I.aej fun p K aog=>aiG (by kernel_rfl) (I.aca p K aog))
noncomputable def am3:Env:=R4 (P:=P) aj3 [⟨_,aj8.n⟩,⟨_,aj9.n⟩,⟨_,akQ.n⟩,⟨_,akR.n⟩] [] []
theorem am4:wy P 57 [Go.bG.ajY,Go.bG.ajY,Go.bG.aj0] (I.xH.T 58):=ajs am3 ua Go.Proofs.Tryz.f57 [.tmp 6, .tmp 7] [Go.bG.ajY,Go.bG.ajV] (ahm _) (I.agH 58 fun p q K aog=>aiG (by kernel_rfl) (I.ab6 58 p q K aog))
noncomputable def anP:Env:=R4 (P:=P) aj3 [⟨_,am4.n⟩] [] []
theorem anQ:wy P 15 [Go.bG.ajY,Go.bG.ajY] I.CX.T:=ajs anP ua Go.Proofs.Tryz.f15 [.tmp 4, .tmp 5] [Go.bG.ajY,Go.bG.ajV] (ahm _) (I.agJ fun p q K aog=>aiG (by kernel_rfl) (I.acR p q K aog))
noncomputable def am5:Env:=R4 (P:=P) aj3 [⟨_,ake.n⟩] [] [(8,{od:=[(0, .e1),(4, .bS (.int .u64))]})]
theorem am6:wy P 116 [Go.bG.ajV] I.Au.T:=ajs am5 ua Go.Proofs.Tryz.f116 [.tmp 2, .tmp 3] [Go.bG.ajX,Go.bG.ajW] (ahm _) (I.adz fun n K aog=>aiG (by kernel_rfl) (I.adD n K aog))
noncomputable def anR:Env:=R4 (P:=P) aj3 [⟨_,am6.n⟩,⟨_,akb.n⟩,⟨_,aj_.n⟩] [] []
theorem akj:wy P 63 [Go.bG.ajV] I.td.T:=ajs anR ua Go.Proofs.Tryz.f63 [.cell 2 39] [Go.bG.aj1] (ahm _) (I.agV fun n K aog=>aiG (by kernel_rfl) (I.ahS n K aog))
noncomputable def am7:Env:=R4 (P:=P) aj3 [⟨_,akA.n⟩,⟨_,aki.n⟩,⟨_,akB.n⟩] [(0,{od:=[(3, .e1),(5, .e1),(10, .e1),(11, .bS (.int .i64))],own:=[.e1, .rows 11]})] []
theorem am8:wy P 130 [Go.bG.ajY,Go.bG.aj1] I.BB.T:=ajs am7 ua Go.Proofs.Tryz.f130 [.tmp 4] [Go.bG.ajY] (ahm _) (I.aeP fun p s a b K aog=>aiG (by kernel_rfl) (I.ac_ p s a b K aog))
noncomputable def am9:Env:=R4 (P:=P) aj3 [⟨_,akj.n⟩,⟨_,am8.n⟩] [] []
theorem am_:wy P 108 [Go.bG.ajY] I.CQ.T:=ajs am9 ua Go.Proofs.Tryz.f108 [.tmp 2] [Go.bG.ajY] (ahm _) (I.agA fun p K aog=>aiG (by kernel_rfl) (I.adw p K aog))
noncomputable def anS:Env:=R4 (P:=P) aj3 [⟨_,akQ.n⟩,⟨_,am_.n⟩] [] []
theorem anT:wy P 59 [Go.bG.ajY,Go.bG.ajY] I.CR.T:=ajs anS ua Go.Proofs.Tryz.f59 [.tmp 4] [Go.bG.ajY] (ahm _) (I.agB fun p q K aog=>aiG (by kernel_rfl) (I.adx p q K aog))
noncomputable def ana:Env:=R4 (P:=P) aj3 [⟨_,aj8.n⟩,⟨_,aj9.n⟩,⟨_,anT.n⟩,⟨_,akR.n⟩] [] []
theorem anb:wy P 57 [Go.bG.ajY,Go.bG.ajY,Go.bG.aj0] (I.xI.T 59):=ajs ana ua Go.Proofs.Tryz.f57 [.tmp 6, .tmp 7] [Go.bG.ajY,Go.bG.ajV] (ahm _) (I.agI 59 fun p q K aog=>aiG (by kernel_rfl) (I.ab7 59 p q K aog))
noncomputable def anU:Env:=R4 (P:=P) aj3 [⟨_,anb.n⟩] [] []
theorem anV:wy P 16 [Go.bG.ajY,Go.bG.ajY] I.CY.T:=ajs anU ua Go.Proofs.Tryz.f16 [.tmp 4, .tmp 5] [Go.bG.ajY,Go.bG.ajV] (ahm _) (I.agK fun p q K aog=>aiG (by kernel_rfl) (I.acS p q K aog))
noncomputable def anL:Env:=R4 (P:=P) aj3 [⟨_,aj8.n⟩,⟨_,aj9.n⟩] [] []
theorem anM:wy P 17 [Go.bG.ajY] I.Cg.T:=ajs anL ua Go.Proofs.Tryz.f17 [.tmp 2, .tmp 3] [Go.bG.ajY,Go.bG.ajV] (ahm _) (I.afK fun p K aog=>aiG (by kernel_rfl) (I.acD p K aog))
noncomputable def anW:Env:=R4 (P:=P) aj3 [⟨_,akj.n⟩] [] []
theorem akS:wy P 20 [Go.bG.ajV] I.CW.T:=ajs anW ua Go.Proofs.Tryz.f20 [.tmp 2, .tmp 3] [Go.bG.ajY,Go.bG.ajV] (ahm _) (I.agG fun v K aog=>aiG (by kernel_rfl) (I.acQ v K aog))
theorem anc:wy P 53 [Go.bG.ajY] I.BC.T:=⟨I.aiv aj8.s I.aiw,ahm _⟩
theorem ane:wy P 54 [Go.bG.ajY] I.AZ.T:=⟨I.aiv aj9.s I.ahK,ahm _⟩
theorem anf:wy P 63 [Go.bG.ajV] I.C3.T:=⟨I.aiv akj.s I.aiV,ahm _⟩
theorem alR:wy P 101 [Go.bG.aj1] I.Cj.T:=⟨I.aiv akc.s I.aiM,ahm _⟩
noncomputable def ang:Env:=R4 (P:=P) aj3 [⟨_,aj_.n⟩,⟨_,aj7.n⟩] [] []
theorem anh:wy P 205 [Go.bG.aj1] I.xN.T:=ajs ang ua Go.Proofs.Tryz.f205 [.cell 2 39] [Go.bG.aj1] (ahm _) (I.agY fun s a b K aog=>aiG (by kernel_rfl) (I.ahV s a b K aog))
noncomputable def ani:Env:=R4 (P:=P) aj3 [⟨_,akf.n⟩,⟨_,anh.n⟩] [] []
theorem anj:wy P 189 [Go.bG.aj1,Go.bG.aj1] I.xO.T:=ajs ani ua Go.Proofs.Tryz.f189 [.cell 4 39] [Go.bG.aj1] (ahm _) (I.agZ fun s a b t c d K aog=>aiG (by kernel_rfl) (I.ahW s a b t c d K aog))
noncomputable def ank:Env:=R4 (P:=P) aj3 [⟨_,akc.n⟩,⟨_,anj.n⟩] [] []
theorem anl:wy P 151 [Go.bG.aj1,Go.bG.aj1] I.xR.T:=ajs ank ua Go.Proofs.Tryz.f151 [.tmp 4] [Go.bG.ajV] (ahm _) (I.ag2 fun s a b t c d K aog=>aiG (by kernel_rfl) (I.ahZ s a b t c d K aog))
noncomputable def anm:Env:=R4 (P:=P) aj3 [⟨_,anl.n⟩] [] []
theorem ann:wy P 110 [Go.bG.aj1,Go.bG.aj1] I.sT.T:=ajs anm ua Go.Proofs.Tryz.f110 [.tmp 4] [Go.bG.ajX] (ahm _) (I.aeX fun s a b t c d K aog=>aiG (by kernel_rfl) (I.afZ s a b t c d K aog))
theorem alS:wy P 110 [Go.bG.aj1,Go.bG.aj1] I.BD.T:=⟨I.aiv ann.s I.aix,ahm _⟩
noncomputable def ano:Env:=R4 (P:=P) aj3 [] [(0,{od:=[(0, .e1),(2, .bS (.int .i64)),(3, .bS (.int .i64))],own:=[.ints .u8]})] []
theorem anp:wC P 191 [] I.AQ.T:=ajw ano ua Go.Proofs.Tryz.f191 [] [] (aga _) (I.ad7 fun l K aog=>aih (by kernel_rfl) (I.adH l K aog))
noncomputable def anq:Env:=R4 (P:=P) aj3 [⟨_,aj6.d⟩,⟨_,akq.d⟩,⟨_,anp.d⟩] [(0,{od:=[(0, .bS (.sints .u32)),(3, .e1)],own:=[.ints .u8],conv:=[(3, .sints .u8)]}),(2,{od:=[(0, .e1),(3, .e1),(4, .bS (.int .u32)),(15, .bS (.int .i64))],own:=[.ints .u8]})] []
theorem anr:wy P 152 [Go.bG.ajW] I.Bn.T:=ajs anq ua Go.Proofs.Tryz.f152 [.tmp 2] [Go.bG.ajZ] (ahm _) (I.aeA fun a K aog=>aiG (by kernel_rfl) (I.afh a K aog))
noncomputable def ans:Env:=R4 (P:=P) aj3 [⟨_,aj7.n⟩,⟨_,aku.n⟩,⟨_,anr.n⟩] [] [(13,{od:=[(3, .e1),(4, .bS (.str))],own:=[.e1, .e1]})]
theorem ant:wy P 111 [Go.bG.aj1] I.xa.T:=ajs ans ua Go.Proofs.Tryz.f111 [.tmp 2] [Go.bG.ajZ] (ahm _) (I.aen fun s a b K aog=>aiG (by kernel_rfl) (I.ae5 s a b K aog))
noncomputable def akC:Env:=R4 (P:=P) aj3 [] [] []
noncomputable def akD:ih:=⟨akC,99999,114,5,109,114,20⟩
theorem alT (K:J->Prop):OD akD Go.Proofs.Tryz.f207.ntmps [.tmp 2] (Go.Proofs.Tryz.f207.body.getD .skip) [.d (.int .i64 2)] (ti [.bS .str] K)=I.Jr K:=by kernel_rfl
theorem anu:wy P 207 [Go.bG.ajV] I.u9.T:=⟨by
 refine aev (X:=akD) ua (Go.Proofs.Tryz.builder akC 99999 20) (fn:=Go.Proofs.Tryz.f207) (c:=Go.Proofs.Tryz.f207.body.getD .skip) (by kernel_rfl) (by kernel_rfl) (by kernel_rfl) (rvs:=[.tmp 2]) (by kernel_rfl) (ts:=[.bS .str]) (by kernel_rfl) (fun args K hyp=> ?_)
 obtain⟨rfl,hyp⟩:=I.ahL args K hyp
 rw[alT K]
 exact I.ab1 K hyp,(ahm _)⟩
noncomputable def akE:Env:=R4 (P:=P) aj3 [⟨_,anu.d⟩] [] []
noncomputable def akF:ih:=⟨akE,99999,114,5,109,114,20⟩
theorem alU (K:J->Prop):OD akF Go.Proofs.Tryz.f192.ntmps [.tmp 4] (Go.Proofs.Tryz.f192.body.getD .skip) [.d (.int .i64 2), .d (.int .i64 10)] (ti [.bS .str] K)=I.Jp K:=by kernel_rfl
theorem anv:wy P 192 [Go.bG.ajV,Go.bG.ajV] I.A0.T:=⟨by
 refine aev (X:=akF) ua (Go.Proofs.Tryz.builder akE 99999 20) (fn:=Go.Proofs.Tryz.f192) (c:=Go.Proofs.Tryz.f192.body.getD .skip) (by kernel_rfl) (by kernel_rfl) (by kernel_rfl) (rvs:=[.tmp 4]) (by kernel_rfl) (ts:=[.bS .str]) (by kernel_rfl) (fun args K hyp=> ?_)
 obtain⟨rfl,hyp⟩:=I.afN args K hyp
 rw[alU K]
 exact I.abZ K hyp,(ahm _)⟩
noncomputable def akG:Env:=R4 (P:=P) aj3 [⟨_,anv.d⟩] [] []
noncomputable def akH:ih:=⟨akG,99999,114,5,109,114,20⟩
theorem alV (K:J->Prop):OD akH Go.Proofs.Tryz.f153.ntmps [.tmp 2] (Go.Proofs.Tryz.f153.body.getD .skip) [.d (.int .i64 2)] (ti [.bS .str] K)=I.SO K:=by kernel_rfl
theorem anw:wy P 153 [Go.bG.ajV] I.u9.T:=⟨by
 refine aev (X:=akH) ua (Go.Proofs.Tryz.builder akG 99999 20) (fn:=Go.Proofs.Tryz.f153) (c:=Go.Proofs.Tryz.f153.body.getD .skip) (by kernel_rfl) (by kernel_rfl) (by kernel_rfl) (rvs:=[.tmp 2]) (by kernel_rfl) (ts:=[.bS .str]) (by kernel_rfl) (fun args K hyp=> ?_)
 obtain⟨rfl,hyp⟩:=I.ahL args K hyp
 rw[alV K]
 exact I.ab2 K hyp,(ahm _)⟩
noncomputable def akI:Env:=R4 (P:=P) aj3 [⟨_,anw.d⟩] [] []
noncomputable def akJ:ih:=⟨akI,99999,114,5,109,114,20⟩
theorem alW (K:J->Prop):OD akJ Go.Proofs.Tryz.f112.ntmps [.tmp 2] (Go.Proofs.Tryz.f112.body.getD .skip) [.d (.int .i64 2)] (ti [.bS .str] K)=I.SS K:=by kernel_rfl
theorem anx:wy P 112 [Go.bG.ajV] I.u9.T:=⟨by
 refine aev (X:=akJ) ua (Go.Proofs.Tryz.builder akI 99999 20) (fn:=Go.Proofs.Tryz.f112) (c:=Go.Proofs.Tryz.f112.body.getD .skip) (by kernel_rfl) (by kernel_rfl) (by kernel_rfl) (rvs:=[.tmp 2]) (by kernel_rfl) (ts:=[.bS .str]) (by kernel_rfl) (fun args K hyp=> ?_)
 obtain⟨rfl,hyp⟩:=I.ahL args K hyp
 rw[alW K]
 exact I.ac7 K hyp,(ahm _)⟩
noncomputable def akK:Env:=R4 (P:=P) aj3 [] [] []
noncomputable def akL:ih:=⟨akK,99999,114,5,109,114,20⟩
theorem alX (x s:List Int)(K:J->Prop):OD akL Go.Proofs.Tryz.f113.ntmps [.tmp 4] (Go.Proofs.Tryz.f113.body.getD .skip) [.d (.rows 1 [[.str x]]), .d (.str s)] (ti [.bS .str] K)=I.Ki x s K:=by kernel_rfl
theorem anz:wy P 113 [.bS (.srows 1),Go.bG.ajZ] I.Ck.T:=⟨by
 refine aev (X:=akL) ua (Go.Proofs.Tryz.builder akK 99999 20) (fn:=Go.Proofs.Tryz.f113) (c:=Go.Proofs.Tryz.f113.body.getD .skip) (by kernel_rfl) (by kernel_rfl) (by kernel_rfl) (rvs:=[.tmp 4]) (by kernel_rfl) (ts:=[.bS .str]) (by kernel_rfl) (fun args K hyp=> ?_)
 obtain⟨x,s,rfl,hyp⟩:=I.ahM args K hyp
 rw[alX x s K]
 exact I.ac8 x s K hyp,(ahm _)⟩
noncomputable def akT:Env:=R4 (P:=P) aj3 [⟨_,anc.d⟩,⟨_,ane.d⟩,⟨_,anf.d⟩,⟨_,alR.d⟩,⟨_,alS.d⟩,⟨_,ant.d⟩,⟨_,anx.d⟩,⟨_,anz.d⟩] [] []
noncomputable def akU:ih:=⟨akT,6,114,5,109,114,20⟩
theorem anA (K:J->Prop):OD akU Go.Proofs.Tryz.f60.ntmps [.tmp 4, .tmp 5] (Go.Proofs.Tryz.f60.body.getD .skip) [.d (.rows 11 I.qw), .d (.rows 1 I.Dp)] (ti [.bS .str, .bS (.int .i64)] K)=I.JI K:=by kernel_rfl
theorem anX:wy P 60 [Go.bG.ajY, .bS (.srows 1)] I.A1.T:=⟨by
 refine aev (X:=akU) ua (Go.Proofs.Tryz.builder akT 6 20) (fn:=Go.Proofs.Tryz.f60) (c:=Go.Proofs.Tryz.f60.body.getD .skip) (by kernel_rfl) (by kernel_rfl) (by kernel_rfl) (rvs:=[.tmp 4, .tmp 5]) (by kernel_rfl) (ts:=[.bS .str, .bS (.int .i64)]) (by kernel_rfl) (fun args K hyp=> ?_)
 obtain⟨rfl,hyp⟩:=I.afO args K hyp
 rw[anA K]
 exact I.aci K hyp,(ahm _)⟩
noncomputable def anY:Env:=R4 (P:=P) aj3 [⟨_,akP.n⟩,⟨_,anQ.n⟩,⟨_,anV.n⟩,⟨_,akS.n⟩,⟨_,anX.n⟩] [] []
theorem anZ:wy P 18 [] I.A2.T:=ajs anY ua Go.Proofs.Tryz.f18 [.tmp 0] [Go.bG.ajX] (ahm _) (I.aek fun K aog=>aiG (by kernel_rfl) (I.ab8 K aog))
noncomputable def an6:Env:=R4 (P:=P) aj3 [⟨_,aj8.n⟩,⟨_,aj9.n⟩] [] []
theorem an7:wy P 64 [Go.bG.ajY,Go.bG.ajV] I.Ch.T:=ajs an6 ua Go.Proofs.Tryz.f64 [.tmp 4, .tmp 5] [Go.bG.ajY,Go.bG.ajV] (ahm _) (I.afL fun p v K aog=>aiG (by kernel_rfl) (I.ab3 p v K aog))
noncomputable def arQ:Env:=R4 (P:=P) aj3 [⟨_,akj.n⟩,⟨_,akA.n⟩,⟨_,aki.n⟩] [(0,{od:=[(1, .e1),(5, .e1),(9, .e1),(10, .e1),(11, .bS (.int .i64))],own:=[.rows 11],conv:=[(5, .srows 11)]})] []
theorem arR:wy P 66 [Go.bG.ajY,Go.bG.ajV] I.CV.T:=ajs arQ ua Go.Proofs.Tryz.f66 [.tmp 4] [Go.bG.ajY] (ahm _) (I.agF fun p v K aog=>aiG (by kernel_rfl) (I.ack p v K aog))
noncomputable def arS:Env:=R4 (P:=P) aj3 [⟨_,an7.n⟩,⟨_,arR.n⟩] [] []
theorem arT:wy P 22 [Go.bG.ajY,Go.bG.ajV] I.C2.T:=ajs arS ua Go.Proofs.Tryz.f22 [.tmp 4, .tmp 5] [Go.bG.ajY,Go.bG.ajV] (ahm _) (I.agO fun p v K aog=>aiG (by kernel_rfl) (I.ab4 p v K aog))
end Go.Proofs.YtmeonjefiioegaaGreatDoor.S
